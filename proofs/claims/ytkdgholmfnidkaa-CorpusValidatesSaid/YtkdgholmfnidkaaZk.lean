/- The reference's heads, Validate and Valid: what each call returns. -/
import Derived.Test.YtkdgholmfnidkaaZi
import Derived.Test.YtkdgholmfnidkaaZj
namespace Go.Proofs.Ytkdgholmfnidkaa
open Go.RowKit Go.Proofs.YtkdgholmfnidkaaW.PrintWords Go.Proofs.YtkdgholmfnidkaaW.PrintLast Go.Proofs.YtkdgholmfnidkaaW.PrintMore

def badH (x : S64) (h : Int) : Bool := decide (h ≠ -1 ∧ (h < x.f1 ∨ x.f2 ≤ h))
theorem badH_no {x : S64} {h : Int} (e : h = -1) : badH x h = false := decide_eq_false (fun z => z.1 e)
theorem badH_yes {x : S64} {h : Int} (e : h ≠ -1) (e2 : h < x.f1 ∨ x.f2 ≤ h) : badH x h = true := decide_eq_true ⟨e, e2⟩
theorem badH_same {ts : List S64} (hs : Sep ts) {h k : Int} {j : Nat} {x : S64} (hk : textAt ts k = j) (hx : ts[j]? = some x) (e : h ≠ -1) : (textAt ts h != textAt ts k) = badH x h := by
  rw [Bool.eq_iff_iff, bne_iff_ne, ne_eq, textAt_same hs hk hx, badH, decide_eq_true_eq]
  omega
set_option maxHeartbeats 8000000 in
set_option maxRecDepth 100000 in
theorem rHeads_calls (v0 v3 v4 : Value) (A1 A2 A5 A6 : Option Addr) (n c1 c2 c5 c6 : Nat) (ts : List S64) (hs : List Int) (fs : List ByteArray) (w : World) (hrt : Kd.C k64 w A2 ts.length ts)
    (hr5 : (Kd.int .i64).C w A5 hs.length hs) (hr6 : Kd.string.C w A6 fs.length fs) (hn : n ≤ 1000000000) (hok : ∀ f ∈ fs, f.size ≤ 140737488351232) (htx : ∀ k : Nat, k < n → 0 ≤ textAt ts k) (hS : Sep ts) (hSn : ∀ t ∈ ts, t.f2 ≤ n) :
    Calls Try.prog 44 #[.agg #[v0, .slice A1 n c1, .slice A2 ts.length c2, v3, v4, .slice A5 hs.length c5, .slice A6 fs.length c6]] w fun e w' => e = .returned (.tuple #[.int .i64 (headsErr n ts hs fs).1, .int .i64 (headsErr n ts hs fs).2]) ∧ Below w.heap.size w w' := by
  have hu30 := Try.underlying30
  have hu64 := Try.underlying64
  have hm5 := Kd.C_max hr5
  have hm6 := Kd.C_max hr6
  have HT := Aside0.mk hrt
  have H5 := Aside0.mk hr5
  have H6 := Aside0.mk hr6
  have HK := Aside0.mk hok
  have HX := Aside0.mk htx
  have HSep := Aside0.mk hS
  have HSn := Aside0.mk hSn
  clear hrt hr5 hr6 hok htx hS hSn
  by_cases hl : hs.length = fs.length
  rotate_left
  · have hlb : ((hs.length : Int) != (fs.length : Int)) = true := by rw [bne_iff_ne]; omega
    have HE : Aside0 (headsErr n ts hs fs = (0, 15)) := ⟨by rw [headsErr, if_pos (.inl hl)]⟩
    clear hl
    go_enter Try.func44, Try.ntmps44
    go_wp2
    go_ret2
    exact ⟨ret_two HE.out, below_alloc (Below.refl _ _) _⟩
  have hlb : ((hs.length : Int) != (fs.length : Int)) = false := by rw [bne_eq_false_iff_eq]; omega
  have hB0 := Bx.refl w #[v0, .slice A1 n c1, .slice A2 ts.length c2, v3, v4, .slice A5 hs.length c5, .slice A6 fs.length c6] 30
  have hb0 : Below w.heap.size w (w.alloc (.cells #[v0, .slice A1 n c1, .slice A2 ts.length c2, v3, v4, .slice A5 hs.length c5, .slice A6 fs.length c6] 30)) := below_alloc (Below.refl _ _) _
  have HLF := Aside0.mk hl
  clear hl
  by_cases h0 : 0 < hs.length
  rotate_left
  · have HE : Aside0 (headsErr n ts hs fs = (0, 0)) := ⟨by
      rw [headsErr, if_neg (by have := HLF.out; omega), if_neg (by omega)]
      have : hs = [] := List.length_eq_zero_iff.1 (by omega)
      subst this; rfl⟩
    have hgz : ((hs.length : Int) != 0) = false := by rw [bne_eq_false_iff_eq]; omega
    have hgn : decide ((0 : Int) < (hs.length : Int)) = false := decide_eq_false (by omega)
    have hgm : decide (0 < hs.length) = false := decide_eq_false (by omega)
    clear h0
    go_enter Try.func44, Try.ntmps44
    go_wp2
    go_loopw [38] (fun i wr => i = .int .i64 0 ∧ Bx w #[v0, .slice A1 n c1, .slice A2 ts.length c2, v3, v4, .slice A5 hs.length c5, .slice A6 fs.length c6] 30 wr) (fun _ _ => 0)
    case atStart => exact ⟨rfl, hB0⟩
    case round =>
      obtain ⟨rfl, HB⟩ := hrel
      go_wp2
      go_ret2
      exact ⟨ret_two HE.out, HB.below⟩
  have hgz : ((hs.length : Int) != 0) = true := by rw [bne_iff_ne]; omega
  by_cases hln : hs.length = n
  rotate_left
  · have hlb2 : ((hs.length : Int) != (n : Int)) = true := by rw [bne_iff_ne]; omega
    have HE : Aside0 (headsErr n ts hs fs = (0, 15)) := ⟨by rw [headsErr, if_pos (.inr ⟨h0, hln⟩)]⟩
    go_enter Try.func44, Try.ntmps44
    go_wp2
    go_ret2
    exact ⟨ret_two HE.out, below_alloc (Below.refl _ _) _⟩
  have hlb2 : ((hs.length : Int) != (n : Int)) = false := by rw [bne_eq_false_iff_eq]; omega
  have hgn : decide ((0 : Int) < (hs.length : Int)) = true := decide_eq_true (by omega)
  have hgm : decide (0 < hs.length) = true := decide_eq_true (by omega)
  have HLN := Aside0.mk hln
  clear hln
  have hnc := rBare_calls A5 A6 c5 c6 hs fs _ (Kd.C_below H5.out hb0) (Kd.C_below H6.out hb0) (by have := HLF.out; omega)
  cases hno : noH hs fs
  rotate_left
  · rw [hno] at hnc
    have HE : Aside0 (headsErr n ts hs fs = (0, 14)) := ⟨by rw [headsErr, if_neg (by have := HLF.out; have := HLN.out; omega), if_pos ⟨h0, hno⟩]⟩
    go_enter Try.func44, Try.ntmps44
    go_wp2_with (go_at_call 58; refine hnc.mono ?_; rintro e w1 ⟨rfl, rfl⟩)
    go_ret2
    exact ⟨ret_two HE.out, hb0⟩
  rw [hno] at hnc
  have H0 : Aside0 (headsErr n ts hs fs = headsGo ts (cyc hs) (hs.drop 0) (fs.drop 0) 0) := ⟨by rw [headsErr, if_neg (by have := HLF.out; have := HLN.out; omega), if_neg (by rw [hno]; simp)]; rfl⟩
  go_enter Try.func44, Try.ntmps44
  go_wp2_with (go_at_call 58; refine hnc.mono ?_; rintro e w1 ⟨rfl, rfl⟩)
  clear hnc
  go_loopw [38] (fun i wr => ∃ k : Nat, k ≤ hs.length ∧ i = .int .i64 k ∧ Aside0 (headsErr n ts hs fs = headsGo ts (cyc hs) (hs.drop k) (fs.drop k) k) ∧ Bx w #[v0, .slice A1 n c1, .slice A2 ts.length c2, v3, v4, .slice A5 hs.length c5, .slice A6 fs.length c6] 30 wr) (fun i _ => hs.length - (intOf i).toNat)
  case atStart => exact ⟨0, Nat.zero_le _, rfl, H0, hB0⟩
  case round =>
    clear H0 hB0 hb0
    obtain ⟨k, hk, rfl, HN, HB⟩ := hrel
    have hfl : fs.length ≤ 1000000000 ∧ (k < hs.length → k < fs.length) ∧ (k < hs.length → k < n) := by have := HLF.out; have := HLN.out; omega
    by_cases hlt : k < hs.length
    · obtain ⟨ad, h, rfl, hd, hx, g0⟩ := elI H5 HB.bel k hlt
      obtain ⟨ad6, f, rfl, hd6, hx6, g6⟩ := elS H6 HB.bel k (hfl.2.1 hlt)
      rcases textAt_cases ts (k : Int) with ⟨h1, -⟩ | ⟨j, x, hj, h1, hy, h3⟩
      · have := HX.out k (hfl.2.2 hlt); omega
      have htx : Aside0 (txOf ts k = x) := ⟨by rw [txOf, h3]; rfl⟩
      have hxp := HSep.out.pos x (List.mem_of_getElem? hy)
      have hxn := HSn.out x (List.mem_of_getElem? hy)
      have hxn2 : x.f2 ≤ (hs.length : Int) := by rw [HLN.out]; exact hxn
      clear hxn
      have HE := Aside0.mk (HN.out.trans (by rw [hd.out, hd6.out, headsGo, htx.out]; simp only [badH, decide_eq_true_eq] : _ = if badH x h = true then ((k : Int), 8) else if (!f.toList.isEmpty) = true ∧ validName f = false then ((k : Int), 4) else if rdB (cyc hs) k = true then ((k : Int), 12) else headsGo ts (cyc hs) (hs.drop (k + 1)) (fs.drop (k + 1)) (k + 1)))
      have HH1 := Aside0.mk h1
      have HHy := Aside0.mk hy
      have hs0 : f.size ≤ 9223372036854775807 := by have := HK.out f (List.mem_of_getElem? hx6.out); omega
      clear HN hy h1 h3 htx
      have b7 := HB.at_
      go_upto_region 9 with fail
      go_cut [62] (fun v w4 => v = .bool (badH x h) ∧ Bx w #[v0, .slice A1 n c1, .slice A2 ts.length c2, v3, v4, .slice (some ad) hs.length c5, .slice (some ad6) fs.length c6] 30 w4)
      case first =>
        by_cases hm : h = -1
        · have HP := Aside0.mk (badH_no (x := x) hm)
          have hmb : (h != -1) = false := by rw [bne_eq_false_iff_eq]; exact hm
          clear hm
          go_quiet (fail)
          go_wp2_with fail
          go_meet
          exact ⟨by rw [HP.out], HB.drewN _⟩
        have hmb : (h != -1) = true := by rw [bne_iff_ne]; exact hm
        by_cases hr1 : h < 0
        · have HP := Aside0.mk (badH_yes (x := x) hm (.inl (by omega)))
          have hr1b : decide (h < 0) = true := decide_eq_true hr1
          clear hm
          go_quiet (fail)
          go_wp2_with fail
          go_meet
          exact ⟨by rw [HP.out], HB.drewN _⟩
        have hr1b : decide (h < 0) = false := decide_eq_false hr1
        by_cases hr2 : (hs.length : Int) ≤ h
        · have HP := Aside0.mk (badH_yes (x := x) hm (.inr (by omega)))
          have hr2b : decide ((hs.length : Int) ≤ h) = true := decide_eq_true hr2
          clear hm
          go_quiet (fail)
          go_wp2_with fail
          go_meet
          exact ⟨by rw [HP.out], HB.drewN _⟩
        have hr2b : decide ((hs.length : Int) ≤ h) = false := decide_eq_false hr2
        have HP := Aside0.mk (badH_same HSep.out HH1.out HHy.out hm)
        clear hm
        have hcall := fun p w' hw => rTextAt_calls v0 (.slice A1 n c1) v3 v4 (.slice (some ad) hs.length c5) (.slice (some ad6) fs.length c6) A2 c2 ts p w' hw
        have p0 := (HB.at_ 0).trans rfl
        have p1 := (HB.at_ 1).trans rfl
        have p2 := (HB.at_ 2).trans rfl
        have p3 := (HB.at_ 3).trans rfl
        have p4 := (HB.at_ 4).trans rfl
        have p5 := (HB.at_ 5).trans rfl
        have p6 := (HB.at_ 6).trans rfl
        have HS := bel_refl wr
        clear b7
        go_region_held3 (fun w' => w'.cell? ⟨w.heap.size, 0, none⟩ = some (v0) ∧ w'.cell? ⟨w.heap.size, 1, none⟩ = some (.slice A1 n c1) ∧ w'.cell? ⟨w.heap.size, 2, none⟩ = some (.slice A2 ts.length c2) ∧ w'.cell? ⟨w.heap.size, 3, none⟩ = some (v3) ∧ w'.cell? ⟨w.heap.size, 4, none⟩ = some (v4) ∧ w'.cell? ⟨w.heap.size, 5, none⟩ = some (.slice (some ad) hs.length c5) ∧ w'.cell? ⟨w.heap.size, 6, none⟩ = some (.slice (some ad6) fs.length c6) ∧ Aside0 (Below wr.heap.size wr w'))
            (refine ⟨?_, ?_, ?_, ?_, ?_, ?_, ?_, ?_⟩ <;> first | (go_keep; done) | (refine pw_cell_below (w := wr) (Aside0.out ?_) (by assumption); (repeat' (first | exact HS | with_reducible apply bel_drew | with_reducible apply bel_alloc | refine bel_step ?_ (by assumption))); done) | ((repeat' (first | exact HS | with_reducible apply bel_drew | with_reducible apply bel_alloc | refine bel_step ?_ (by assumption))); done))
            (first | (go_at_call 26; refine (hcall _ _ (Kd.C_below HT.out (below_step HB.below (Aside0.out ?hz)))).mono ?_; (case hz => (repeat' (first | exact HS | with_reducible apply bel_drew | with_reducible apply bel_alloc | refine bel_step ?_ (by assumption))); done); rintro e w5 ⟨rfl, hb5⟩))
        all_goals
          go_wp2_with fail
          go_meet
          refine ⟨by rw [HP.out], HB.step (Aside0.out ?_)⟩
          repeat' (first | exact HS | with_reducible apply bel_drew | with_reducible apply bel_alloc | refine bel_step ?_ (by assumption))
      case rest =>
        obtain ⟨rfl, HB4⟩ := hcut
        clear b7 g6
        have b7 := HB4.at_
        obtain ⟨ad6', f', hA, -, hx6', g7⟩ := elS H6 HB4.bel k (hfl.2.1 hlt)
        obtain rfl := Option.some.inj hA
        obtain rfl := Option.some.inj (hx6.out.symm.trans hx6'.out)
        have hcy : ∀ w', (Kd.int .i64).C w' (some ad) hs.length hs → Calls Try.prog 83 #[.slice (some ad) hs.length c5, .int .i64 k] w' fun e w'' => e = .returned (.bool (rdB (cyc hs) k)) ∧ w' = w'' := fun w' hw => by
          rw [cyc_same ⟨by omega, by omega⟩]; exact rCyclic_calls _ _ _ _ _ hw (by omega) (by omega)
        replace hcy := hcy wc (Kd.C_below H5.out HB4.below)
        cases hm : badH x h
        rotate_left
        · go_wp2
          go_ret2
          exact ⟨ret_two (by rw [HE.out, if_pos hm]), HB4.below⟩
        replace HE := Aside0.mk (HE.out.trans (by rw [if_neg (by rw [hm]; decide)]))
        clear hm
        cases hem : !f.toList.isEmpty
        · replace HE := Aside0.mk (HE.out.trans (by rw [hem, if_neg (by simp)]))
          cases hc : rdB (cyc hs) (k : Int)
          · rw [hc] at hcy
            go_wp2_with (first | (go_at_call 79; refine (rValidName_calls _ _ hs0).mono ?_; rintro e w5 ⟨rfl, rfl⟩) | (go_at_call 83; refine hcy.mono ?_; rintro e w5 ⟨rfl, rfl⟩))
            go_roundw
            case rel => exact ⟨k + 1, by omega, by go_num, ⟨HE.out.trans (by rw [hc, if_neg (by simp)])⟩, HB4⟩
            case measure => simp [intOf]; omega
          · rw [hc] at hcy
            go_wp2_with (first | (go_at_call 79; refine (rValidName_calls _ _ hs0).mono ?_; rintro e w5 ⟨rfl, rfl⟩) | (go_at_call 83; refine hcy.mono ?_; rintro e w5 ⟨rfl, rfl⟩))
            go_ret2
            exact ⟨ret_two (by rw [HE.out, hc, if_pos rfl]), HB4.below⟩
        · cases hv : validName f
          · go_wp2_with (go_at_call 79; refine (rValidName_calls _ _ hs0).mono ?_; rintro e w5 ⟨rfl, rfl⟩)
            go_ret2
            exact ⟨ret_two (by rw [HE.out, hem, if_pos ⟨rfl, hv⟩]), HB4.below⟩
          · replace HE := Aside0.mk (HE.out.trans (by rw [if_neg (by rw [hv]; simp)]))
            cases hc : rdB (cyc hs) (k : Int)
            · rw [hc] at hcy
              go_wp2_with (first | (go_at_call 79; refine (rValidName_calls _ _ hs0).mono ?_; rintro e w5 ⟨rfl, rfl⟩) | (go_at_call 83; refine hcy.mono ?_; rintro e w5 ⟨rfl, rfl⟩))
              go_roundw
              case rel => exact ⟨k + 1, by omega, by go_num, ⟨HE.out.trans (by rw [hc, if_neg (by simp)])⟩, HB4⟩
              case measure => simp [intOf]; omega
            · rw [hc] at hcy
              go_wp2_with (first | (go_at_call 79; refine (rValidName_calls _ _ hs0).mono ?_; rintro e w5 ⟨rfl, rfl⟩) | (go_at_call 83; refine hcy.mono ?_; rintro e w5 ⟨rfl, rfl⟩))
              go_ret2
              exact ⟨ret_two (by rw [HE.out, hc, if_pos rfl]), HB4.below⟩
    · go_wp2
      go_ret2
      exact ⟨ret_two (by rw [HN.out, List.drop_eq_nil_of_le (by omega)]; rfl), HB.below⟩
end Go.Proofs.Ytkdgholmfnidkaa
