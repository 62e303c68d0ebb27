/- The reference's heads, Validate and Valid: what each call returns. The reference's Validate and Valid: what each call returns. Plain laws: nodes of a valid corpus begin in order; both ways to cut out a text's nodes are the same. -/
import Derived.Test.YtkdgholmfnidkaaZi
import Derived.Test.YtkdgholmfnidkaaZj
namespace Go.Proofs.Ytkdgholmfnidkaa
open Go.RowKit Go.Proofs.YtkdgholmfnidkaaW.PrintWords Go.Proofs.YtkdgholmfnidkaaW.PrintLast Go.Proofs.YtkdgholmfnidkaaW.PrintMore

def badH (x : S64) (h : Int) : Bool := decide (h ≠ -1 ∧ (h < x.f1 ∨ x.f2 ≤ h))
theorem badH_no {x : S64} {h : Int} (e : h = -1) : badH x h = false := decide_eq_false (fun z => z.1 e)
theorem badH_yes {x : S64} {h : Int} (e : h ≠ -1) (e2 : h < x.f1 ∨ x.f2 ≤ h) : badH x h = true := decide_eq_true ⟨e, e2⟩
theorem badH_same {ts : List S64} (hs : Sep ts) {h k : Int} {j : Nat} {x : S64} (hk : textAt ts k = j) (hx : ts[j]? = some x) (e : h ≠ -1) : (textAt ts h != textAt ts k) = badH x h := by
  rw [Bool.eq_iff_iff, bne_iff_ne, ne_eq, textAt_same hs hk hx, badH, decide_eq_true_eq]
  omega
set_option maxHeartbeats 8000000 in
set_option maxRecDepth 100000 in
theorem rHeads_calls (v0 v3 v4 : Value) (A1 A2 A5 A6 : Option Addr) (n c1 c2 c5 c6 : Nat) (ts : List S64) (hs : List Int) (fs : List ByteArray) (w : World) (hrt : Kd.C k64 w A2 ts.length ts)
    (hr5 : (Kd.int .i64).C w A5 hs.length hs) (hr6 : Kd.string.C w A6 fs.length fs) (hn : n ≤ 1000000000) (hok : ∀ f ∈ fs, f.size ≤ 140737488351232) (htx : ∀ k : Nat, k < n → 0 ≤ textAt ts k) (hS : Sep ts) (hSn : ∀ t ∈ ts, t.f2 ≤ n) :
    Calls Try.prog 44 #[.agg #[v0, .slice A1 n c1, .slice A2 ts.length c2, v3, v4, .slice A5 hs.length c5, .slice A6 fs.length c6]] w fun e w' => e = .returned (.tuple #[.int .i64 (headsErr n ts hs fs).1, .int .i64 (headsErr n ts hs fs).2]) ∧ Below w.heap.size w w' := by
  have hu30 := Try.underlying30
  have hu64 := Try.underlying64
  have hm5 := Kd.C_max hr5
  have hm6 := Kd.C_max hr6
  have HT := Aside0.mk hrt
  have H5 := Aside0.mk hr5
  have H6 := Aside0.mk hr6
  have HK := Aside0.mk hok
  have HX := Aside0.mk htx
  have HSep := Aside0.mk hS
  have HSn := Aside0.mk hSn
  clear hrt hr5 hr6 hok htx hS hSn
  by_cases hl : hs.length = fs.length
  rotate_left
  · have hlb : ((hs.length : Int) != (fs.length : Int)) = true := by rw [bne_iff_ne]; omega
    have HE : Aside0 (headsErr n ts hs fs = (0, 15)) := ⟨by rw [headsErr, if_pos (.inl hl)]⟩
    clear hl
    go_enter Try.func44, Try.ntmps44
    go_wp2
    go_ret2
    exact ⟨ret_two HE.out, below_alloc (Below.refl _ _) _⟩
  have hlb : ((hs.length : Int) != (fs.length : Int)) = false := by rw [bne_eq_false_iff_eq]; omega
  have hB0 := Bx.refl w #[v0, .slice A1 n c1, .slice A2 ts.length c2, v3, v4, .slice A5 hs.length c5, .slice A6 fs.length c6] 30
  have hb0 : Below w.heap.size w (w.alloc (.cells #[v0, .slice A1 n c1, .slice A2 ts.length c2, v3, v4, .slice A5 hs.length c5, .slice A6 fs.length c6] 30)) := below_alloc (Below.refl _ _) _
  have HLF := Aside0.mk hl
  clear hl
  by_cases h0 : 0 < hs.length
  rotate_left
  · have HE : Aside0 (headsErr n ts hs fs = (0, 0)) := ⟨by
      rw [headsErr, if_neg (by have := HLF.out; omega), if_neg (by omega)]
      have : hs = [] := List.length_eq_zero_iff.1 (by omega)
      subst this; rfl⟩
    have hgz : ((hs.length : Int) != 0) = false := by rw [bne_eq_false_iff_eq]; omega
    have hgn : decide ((0 : Int) < (hs.length : Int)) = false := decide_eq_false (by omega)
    have hgm : decide (0 < hs.length) = false := decide_eq_false (by omega)
    clear h0
    go_enter Try.func44, Try.ntmps44
    go_wp2
    go_loopw [38] (fun i wr => i = .int .i64 0 ∧ Bx w #[v0, .slice A1 n c1, .slice A2 ts.length c2, v3, v4, .slice A5 hs.length c5, .slice A6 fs.length c6] 30 wr) (fun _ _ => 0)
    case atStart => exact ⟨rfl, hB0⟩
    case round =>
      obtain ⟨rfl, HB⟩ := hrel
      go_wp2
      go_ret2
      exact ⟨ret_two HE.out, HB.below⟩
  have hgz : ((hs.length : Int) != 0) = true := by rw [bne_iff_ne]; omega
  by_cases hln : hs.length = n
  rotate_left
  · have hlb2 : ((hs.length : Int) != (n : Int)) = true := by rw [bne_iff_ne]; omega
    have HE : Aside0 (headsErr n ts hs fs = (0, 15)) := ⟨by rw [headsErr, if_pos (.inr ⟨h0, hln⟩)]⟩
    go_enter Try.func44, Try.ntmps44
    go_wp2
    go_ret2
    exact ⟨ret_two HE.out, below_alloc (Below.refl _ _) _⟩
  have hlb2 : ((hs.length : Int) != (n : Int)) = false := by rw [bne_eq_false_iff_eq]; omega
  have hgn : decide ((0 : Int) < (hs.length : Int)) = true := decide_eq_true (by omega)
  have hgm : decide (0 < hs.length) = true := decide_eq_true (by omega)
  have HLN := Aside0.mk hln
  clear hln
  have hnc := rBare_calls A5 A6 c5 c6 hs fs _ (Kd.C_below H5.out hb0) (Kd.C_below H6.out hb0) (by have := HLF.out; omega)
  cases hno : noH hs fs
  rotate_left
  · rw [hno] at hnc
    have HE : Aside0 (headsErr n ts hs fs = (0, 14)) := ⟨by rw [headsErr, if_neg (by have := HLF.out; have := HLN.out; omega), if_pos ⟨h0, hno⟩]⟩
    go_enter Try.func44, Try.ntmps44
    go_wp2_with (go_at_call 58; refine hnc.mono ?_; rintro e w1 ⟨rfl, rfl⟩)
    go_ret2
    exact ⟨ret_two HE.out, hb0⟩
  rw [hno] at hnc
  have H0 : Aside0 (headsErr n ts hs fs = headsGo ts (cyc hs) (hs.drop 0) (fs.drop 0) 0) := ⟨by rw [headsErr, if_neg (by have := HLF.out; have := HLN.out; omega), if_neg (by rw [hno]; simp)]; rfl⟩
  go_enter Try.func44, Try.ntmps44
  go_wp2_with (go_at_call 58; refine hnc.mono ?_; rintro e w1 ⟨rfl, rfl⟩)
  clear hnc
  go_loopw [38] (fun i wr => ∃ k : Nat, k ≤ hs.length ∧ i = .int .i64 k ∧ Aside0 (headsErr n ts hs fs = headsGo ts (cyc hs) (hs.drop k) (fs.drop k) k) ∧ Bx w #[v0, .slice A1 n c1, .slice A2 ts.length c2, v3, v4, .slice A5 hs.length c5, .slice A6 fs.length c6] 30 wr) (fun i _ => hs.length - (intOf i).toNat)
  case atStart => exact ⟨0, Nat.zero_le _, rfl, H0, hB0⟩
  case round =>
    clear H0 hB0 hb0
    obtain ⟨k, hk, rfl, HN, HB⟩ := hrel
    have hfl : fs.length ≤ 1000000000 ∧ (k < hs.length → k < fs.length) ∧ (k < hs.length → k < n) := by have := HLF.out; have := HLN.out; omega
    by_cases hlt : k < hs.length
    · obtain ⟨ad, h, rfl, hd, hx, g0⟩ := elI H5 HB.bel k hlt
      obtain ⟨ad6, f, rfl, hd6, hx6, g6⟩ := elS H6 HB.bel k (hfl.2.1 hlt)
      rcases textAt_cases ts (k : Int) with ⟨h1, -⟩ | ⟨j, x, hj, h1, hy, h3⟩
      · have := HX.out k (hfl.2.2 hlt); omega
      have htx : Aside0 (txOf ts k = x) := ⟨by rw [txOf, h3]; rfl⟩
      have hxp := HSep.out.pos x (List.mem_of_getElem? hy)
      have hxn := HSn.out x (List.mem_of_getElem? hy)
      have hxn2 : x.f2 ≤ (hs.length : Int) := by rw [HLN.out]; exact hxn
      clear hxn
      have HE := Aside0.mk (HN.out.trans (by rw [hd.out, hd6.out, headsGo, htx.out]; simp only [badH, decide_eq_true_eq] : _ = if badH x h = true then ((k : Int), 8) else if (!f.toList.isEmpty) = true ∧ validName f = false then ((k : Int), 4) else if rdB (cyc hs) k = true then ((k : Int), 12) else headsGo ts (cyc hs) (hs.drop (k + 1)) (fs.drop (k + 1)) (k + 1)))
      have HH1 := Aside0.mk h1
      have HHy := Aside0.mk hy
      have hs0 : f.size ≤ 9223372036854775807 := by have := HK.out f (List.mem_of_getElem? hx6.out); omega
      clear HN hy h1 h3 htx
      have b7 := HB.at_
      go_upto_region 9 with fail
      go_cut [62] (fun v w4 => v = .bool (badH x h) ∧ Bx w #[v0, .slice A1 n c1, .slice A2 ts.length c2, v3, v4, .slice (some ad) hs.length c5, .slice (some ad6) fs.length c6] 30 w4)
      case first =>
        by_cases hm : h = -1
        · have HP := Aside0.mk (badH_no (x := x) hm)
          have hmb : (h != -1) = false := by rw [bne_eq_false_iff_eq]; exact hm
          clear hm
          go_quiet (fail)
          go_wp2_with fail
          go_meet
          exact ⟨by rw [HP.out], HB.drewN _⟩
        have hmb : (h != -1) = true := by rw [bne_iff_ne]; exact hm
        by_cases hr1 : h < 0
        · have HP := Aside0.mk (badH_yes (x := x) hm (.inl (by omega)))
          have hr1b : decide (h < 0) = true := decide_eq_true hr1
          clear hm
          go_quiet (fail)
          go_wp2_with fail
          go_meet
          exact ⟨by rw [HP.out], HB.drewN _⟩
        have hr1b : decide (h < 0) = false := decide_eq_false hr1
        by_cases hr2 : (hs.length : Int) ≤ h
        · have HP := Aside0.mk (badH_yes (x := x) hm (.inr (by omega)))
          have hr2b : decide ((hs.length : Int) ≤ h) = true := decide_eq_true hr2
          clear hm
          go_quiet (fail)
          go_wp2_with fail
          go_meet
          exact ⟨by rw [HP.out], HB.drewN _⟩
        have hr2b : decide ((hs.length : Int) ≤ h) = false := decide_eq_false hr2
        have HP := Aside0.mk (badH_same HSep.out HH1.out HHy.out hm)
        clear hm
        have hcall := fun p w' hw => rTextAt_calls v0 (.slice A1 n c1) v3 v4 (.slice (some ad) hs.length c5) (.slice (some ad6) fs.length c6) A2 c2 ts p w' hw
        have p0 := (HB.at_ 0).trans rfl
        have p1 := (HB.at_ 1).trans rfl
        have p2 := (HB.at_ 2).trans rfl
        have p3 := (HB.at_ 3).trans rfl
        have p4 := (HB.at_ 4).trans rfl
        have p5 := (HB.at_ 5).trans rfl
        have p6 := (HB.at_ 6).trans rfl
        have HS := bel_refl wr
        clear b7
        go_region_held3 (fun w' => w'.cell? ⟨w.heap.size, 0, none⟩ = some (v0) ∧ w'.cell? ⟨w.heap.size, 1, none⟩ = some (.slice A1 n c1) ∧ w'.cell? ⟨w.heap.size, 2, none⟩ = some (.slice A2 ts.length c2) ∧ w'.cell? ⟨w.heap.size, 3, none⟩ = some (v3) ∧ w'.cell? ⟨w.heap.size, 4, none⟩ = some (v4) ∧ w'.cell? ⟨w.heap.size, 5, none⟩ = some (.slice (some ad) hs.length c5) ∧ w'.cell? ⟨w.heap.size, 6, none⟩ = some (.slice (some ad6) fs.length c6) ∧ Aside0 (Below wr.heap.size wr w'))
            (refine ⟨?_, ?_, ?_, ?_, ?_, ?_, ?_, ?_⟩ <;> first | (go_keep; done) | (refine pw_cell_below (w := wr) (Aside0.out ?_) (by assumption); (repeat' (first | exact HS | with_reducible apply bel_drew | with_reducible apply bel_alloc | refine bel_step ?_ (by assumption))); done) | ((repeat' (first | exact HS | with_reducible apply bel_drew | with_reducible apply bel_alloc | refine bel_step ?_ (by assumption))); done))
            (first | (go_at_call 26; refine (hcall _ _ (Kd.C_below HT.out (below_step HB.below (Aside0.out ?hz)))).mono ?_; (case hz => (repeat' (first | exact HS | with_reducible apply bel_drew | with_reducible apply bel_alloc | refine bel_step ?_ (by assumption))); done); rintro e w5 ⟨rfl, hb5⟩))
        all_goals
          go_wp2_with fail
          go_meet
          refine ⟨by rw [HP.out], HB.step (Aside0.out ?_)⟩
          repeat' (first | exact HS | with_reducible apply bel_drew | with_reducible apply bel_alloc | refine bel_step ?_ (by assumption))
      case rest =>
        obtain ⟨rfl, HB4⟩ := hcut
        clear b7 g6
        have b7 := HB4.at_
        obtain ⟨ad6', f', hA, -, hx6', g7⟩ := elS H6 HB4.bel k (hfl.2.1 hlt)
        obtain rfl := Option.some.inj hA
        obtain rfl := Option.some.inj (hx6.out.symm.trans hx6'.out)
        have hcy : ∀ w', (Kd.int .i64).C w' (some ad) hs.length hs → Calls Try.prog 83 #[.slice (some ad) hs.length c5, .int .i64 k] w' fun e w'' => e = .returned (.bool (rdB (cyc hs) k)) ∧ w' = w'' := fun w' hw => by
          rw [cyc_same ⟨by omega, by omega⟩]; exact rCyclic_calls _ _ _ _ _ hw (by omega) (by omega)
        replace hcy := hcy wc (Kd.C_below H5.out HB4.below)
        cases hm : badH x h
        rotate_left
        · go_wp2
          go_ret2
          exact ⟨ret_two (by rw [HE.out, if_pos hm]), HB4.below⟩
        replace HE := Aside0.mk (HE.out.trans (by rw [if_neg (by rw [hm]; decide)]))
        clear hm
        cases hem : !f.toList.isEmpty
        · replace HE := Aside0.mk (HE.out.trans (by rw [hem, if_neg (by simp)]))
          cases hc : rdB (cyc hs) (k : Int)
          · rw [hc] at hcy
            go_wp2_with (first | (go_at_call 79; refine (rValidName_calls _ _ hs0).mono ?_; rintro e w5 ⟨rfl, rfl⟩) | (go_at_call 83; refine hcy.mono ?_; rintro e w5 ⟨rfl, rfl⟩))
            go_roundw
            case rel => exact ⟨k + 1, by omega, by go_num, ⟨HE.out.trans (by rw [hc, if_neg (by simp)])⟩, HB4⟩
            case measure => simp [intOf]; omega
          · rw [hc] at hcy
            go_wp2_with (first | (go_at_call 79; refine (rValidName_calls _ _ hs0).mono ?_; rintro e w5 ⟨rfl, rfl⟩) | (go_at_call 83; refine hcy.mono ?_; rintro e w5 ⟨rfl, rfl⟩))
            go_ret2
            exact ⟨ret_two (by rw [HE.out, hc, if_pos rfl]), HB4.below⟩
        · cases hv : validName f
          · go_wp2_with (go_at_call 79; refine (rValidName_calls _ _ hs0).mono ?_; rintro e w5 ⟨rfl, rfl⟩)
            go_ret2
            exact ⟨ret_two (by rw [HE.out, hem, if_pos ⟨rfl, hv⟩]), HB4.below⟩
          · replace HE := Aside0.mk (HE.out.trans (by rw [if_neg (by rw [hv]; simp)]))
            cases hc : rdB (cyc hs) (k : Int)
            · rw [hc] at hcy
              go_wp2_with (first | (go_at_call 79; refine (rValidName_calls _ _ hs0).mono ?_; rintro e w5 ⟨rfl, rfl⟩) | (go_at_call 83; refine hcy.mono ?_; rintro e w5 ⟨rfl, rfl⟩))
              go_roundw
              case rel => exact ⟨k + 1, by omega, by go_num, ⟨HE.out.trans (by rw [hc, if_neg (by simp)])⟩, HB4⟩
              case measure => simp [intOf]; omega
            · rw [hc] at hcy
              go_wp2_with (first | (go_at_call 79; refine (rValidName_calls _ _ hs0).mono ?_; rintro e w5 ⟨rfl, rfl⟩) | (go_at_call 83; refine hcy.mono ?_; rintro e w5 ⟨rfl, rfl⟩))
              go_ret2
              exact ⟨ret_two (by rw [HE.out, hc, if_pos rfl]), HB4.below⟩
    · go_wp2
      go_ret2
      exact ⟨ret_two (by rw [HN.out, List.drop_eq_nil_of_le (by omega)]; rfl), HB.below⟩
theorem vErr_eq (x : S30) : vErr x = if ((attrsErr x.f0).2 != 0) = true then ((1 : Int), (attrsErr x.f0).1, (attrsErr x.f0).2) else if ((toksErr x.f0 x.f1).2 != 0) = true then ((2 : Int), (toksErr x.f0 x.f1).1, (toksErr x.f0 x.f1).2) else if ((textsErr x.f2 x.f1.length).2 != 0) = true then ((3 : Int), (textsErr x.f2 x.f1.length).1, (textsErr x.f2 x.f1.length).2) else if ((regsErr x.f2 x.f3).2 != 0) = true then ((4 : Int), (regsErr x.f2 x.f3).1, (regsErr x.f2 x.f3).2) else if ((nodesErr x.f2 x.f4).2 != 0) = true then ((5 : Int), (nodesErr x.f2 x.f4).1, (nodesErr x.f2 x.f4).2) else if ((headsErr x.f1.length x.f2 x.f5 x.f6).2 != 0) = true then ((6 : Int), (headsErr x.f1.length x.f2 x.f5 x.f6).1, (headsErr x.f1.length x.f2 x.f5 x.f6).2) else (0, 0, 0) := rfl
set_option maxHeartbeats 8000000 in
set_option maxRecDepth 100000 in
theorem rValidate_calls (x : S30) (cs : List Value) (w : World) (hx : k30.K w x cs) (hok : okC x) :
    Calls Try.prog 16 #[.agg cs.toArray] w fun e w' => e = .returned (.tuple #[.int .i64 (vErr x).1, .int .i64 (vErr x).2.1, .int .i64 (vErr x).2.2]) ∧ Below w.heap.size w w' := by
  obtain ⟨A0, c0, A1, c1, A2, c2, A3, c3, A4, c4, A5, c5, A6, c6, rfl, l0, g0, l1, g1, l2, g2, l3, g3, l4, g4, l5, g5, l6, g6⟩ := k30_open hx
  have hu30 := Try.underlying30
  have G := Aside0.mk (And.intro g0 (And.intro g1 (And.intro g2 (And.intro g3 (And.intro g4 (And.intro g5 g6))))))
  have HOK := Aside0.mk hok
  have HE := Aside0.mk (vErr_eq x)
  replace l0 := Aside0.mk l0
  replace l2 := Aside0.mk l2
  replace l3 := Aside0.mk l3
  clear g0 g1 g2 g3 g4 g5 g6 hok hx l1 l4 l5 l6
  have HB0 := Bx.refl w #[.slice A0 x.f0.length c0, .slice A1 x.f1.length c1, .slice A2 x.f2.length c2, .slice A3 x.f3.length c3, .slice A4 x.f4.length c4, .slice A5 x.f5.length c5, .slice A6 x.f6.length c6] 30
  go_enter Try.func16, Try.ntmps16
  go_wp2_with fail
  refine (rAttributes_calls A0 c0 x.f0 _ (Kd.C_below G.out.1 HB0.below) l0.out HOK.out.a).mono ?_
  rintro e w1 ⟨rfl, hb⟩
  have HB1 := HB0.step hb
  have b7 := HB1.at_
  clear HB0 hb
  cases he : ((attrsErr x.f0).2 != 0)
  rotate_left
  · go_wp2_with fail
    go_ret3
    exact ⟨ret_three (HE.out.trans (by rw [if_pos he])), HB1.below⟩
  replace HE := Aside0.mk (HE.out.trans (by rw [if_neg (by rw [he]; decide)]))
  have H1 : Aside0 ((attrsErr x.f0).2 = 0) := ⟨by simpa using he⟩
  clear b7
  have b7 := HB1.at_
  go_wp2_with fail
  refine (rTokens_calls (.slice A2 x.f2.length c2) (.slice A3 x.f3.length c3) (.slice A4 x.f4.length c4) (.slice A5 x.f5.length c5) (.slice A6 x.f6.length c6) A0 A1 c0 c1 x.f0 x.f1 _ (Kd.C_below G.out.1 HB1.below) (Kd.C_below G.out.2.1 HB1.below) HOK.out.k).mono ?_
  rintro e w2 ⟨rfl, hb⟩
  have HB2 := HB1.step hb
  have b7 := HB2.at_
  clear HB1 hb
  cases he : ((toksErr x.f0 x.f1).2 != 0)
  rotate_left
  · go_wp2_with fail
    go_ret3
    exact ⟨ret_three (HE.out.trans (by rw [if_pos he])), HB2.below⟩
  replace HE := Aside0.mk (HE.out.trans (by rw [if_neg (by rw [he]; decide)]))
  have H2 : Aside0 ((toksErr x.f0 x.f1).2 = 0) := ⟨by simpa using he⟩
  clear b7
  have b7 := HB2.at_
  go_wp2_with fail
  refine (rTexts_calls (.slice A0 x.f0.length c0) (.slice A3 x.f3.length c3) (.slice A4 x.f4.length c4) (.slice A5 x.f5.length c5) (.slice A6 x.f6.length c6) A2 A1 c2 c1 x.f2 x.f1.length _ (Kd.C_below G.out.2.2.1 HB2.below) l2.out (Kd.C_max G.out.2.1) HOK.out.t).mono ?_
  rintro e w3 ⟨rfl, hb⟩
  have HB3 := HB2.step hb
  have b7 := HB3.at_
  clear HB2 hb
  cases he : ((textsErr x.f2 x.f1.length).2 != 0)
  rotate_left
  · go_wp2_with fail
    go_ret3
    exact ⟨ret_three (HE.out.trans (by rw [if_pos he])), HB3.below⟩
  replace HE := Aside0.mk (HE.out.trans (by rw [if_neg (by rw [he]; decide)]))
  have H3 : Aside0 ((textsErr x.f2 x.f1.length).2 = 0) := ⟨by simpa using he⟩
  clear b7
  have b7 := HB3.at_
  go_wp2_with fail
  refine (rRegions_calls (.slice A0 x.f0.length c0) (.slice A1 x.f1.length c1) (.slice A4 x.f4.length c4) (.slice A5 x.f5.length c5) (.slice A6 x.f6.length c6) A2 A3 c2 c3 x.f2 x.f3 _ (Kd.C_below G.out.2.2.1 HB3.below) (Kd.C_below G.out.2.2.2.1 HB3.below) l3.out HOK.out.r (texts_sep H3.out)).mono ?_
  rintro e w4 ⟨rfl, hb⟩
  have HB4 := HB3.step hb
  have b7 := HB4.at_
  clear HB3 hb
  cases he : ((regsErr x.f2 x.f3).2 != 0)
  rotate_left
  · go_wp2_with fail
    go_ret3
    exact ⟨ret_three (HE.out.trans (by rw [if_pos he])), HB4.below⟩
  replace HE := Aside0.mk (HE.out.trans (by rw [if_neg (by rw [he]; decide)]))
  have H4 : Aside0 ((regsErr x.f2 x.f3).2 = 0) := ⟨by simpa using he⟩
  clear b7
  have b7 := HB4.at_
  go_wp2_with fail
  refine (rNodes_calls (.slice A0 x.f0.length c0) (.slice A1 x.f1.length c1) (.slice A3 x.f3.length c3) (.slice A4 x.f4.length c4) (.slice A5 x.f5.length c5) (.slice A6 x.f6.length c6) A2 A4 c2 c4 x.f2 x.f4 _ (Kd.C_below G.out.2.2.1 HB4.below) (Kd.C_below G.out.2.2.2.2.1 HB4.below) HOK.out.n (texts_sep H3.out)).mono ?_
  rintro e w5 ⟨rfl, hb⟩
  have HB5 := HB4.step hb
  have b7 := HB5.at_
  clear HB4 hb
  cases he : ((nodesErr x.f2 x.f4).2 != 0)
  rotate_left
  · go_wp2_with fail
    go_ret3
    exact ⟨ret_three (HE.out.trans (by rw [if_pos he])), HB5.below⟩
  replace HE := Aside0.mk (HE.out.trans (by rw [if_neg (by rw [he]; decide)]))
  have H5 : Aside0 ((nodesErr x.f2 x.f4).2 = 0) := ⟨by simpa using he⟩
  clear b7
  have b7 := HB5.at_
  go_wp2_with fail
  refine (rHeads_calls (.slice A0 x.f0.length c0) (.slice A3 x.f3.length c3) (.slice A4 x.f4.length c4) A1 A2 A5 A6 x.f1.length c1 c2 c5 c6 x.f2 x.f5 x.f6 _ (Kd.C_below G.out.2.2.1 HB5.below) (Kd.C_below G.out.2.2.2.2.2.1 HB5.below) (Kd.C_below G.out.2.2.2.2.2.2 HB5.below) (by have := toks_le H2.out; omega) HOK.out.f (texts_at H3.out) (texts_sep H3.out) (fun t ht => (texts_in H3.out t ht).2.2.1)).mono ?_
  rintro e w6 ⟨rfl, hb⟩
  have HB6 := HB5.step hb
  have b7 := HB6.at_
  clear HB5 hb
  cases he : ((headsErr x.f1.length x.f2 x.f5 x.f6).2 != 0)
  rotate_left
  · go_wp2_with fail
    go_ret3
    exact ⟨ret_three (HE.out.trans (by rw [if_pos he])), HB6.below⟩
  replace HE := Aside0.mk (HE.out.trans (by rw [if_neg (by rw [he]; decide)]))
  have H6 : Aside0 ((headsErr x.f1.length x.f2 x.f5 x.f6).2 = 0) := ⟨by simpa using he⟩
  go_wp2_with fail
  go_ret3
  exact ⟨ret_three HE.out, HB6.below⟩
set_option maxHeartbeats 1000000 in
theorem rValid_corpus_calls (x : S30) (cs : List Value) (w : World) (hx : k30.K w x cs) (hok : okC x) :
    Calls Try.prog 57 #[.agg cs.toArray] w fun e w' => e = .returned (.bool ((vErr x).2.2 == 0)) ∧ Below w.heap.size w w' := by
  have hb0 : Below w.heap.size w (w.alloc (.cells cs.toArray 30)) := below_alloc (Below.refl _ _) _
  have hc := rValidate_calls x cs (w.alloc (.cells cs.toArray 30)) (k30.K_below hb0 hx) hok
  obtain ⟨A0, c0, A1, c1, A2, c2, A3, c3, A4, c4, A5, c5, A6, c6, rfl, -⟩ := k30_open hx
  clear hx
  have hu30 := Try.underlying30
  go_enter Try.func57, Try.ntmps57
  go_wp2_with (go_at_call 16; refine hc.mono ?_; rintro e w2 ⟨rfl, hb⟩)
  go_ret
  exact ⟨rfl, below_step hb0 hb⟩
/-- The nodes of a text, as the reference cuts them: f is the number of the first one, or -1. -/
def cutN2 (t : S64) : List S74 → Int → Nat → List S74
  | [], _, _ => []
  | n :: l, f, k => if n.f1 < t.f1 ∨ t.f2 < n.f2 then cutN2 t l f (k + 1) else shiftN n (-t.f1) (-(if f < 0 then (k : Int) else f)) :: cutN2 t l (if f < 0 then (k : Int) else f) (k + 1)
structure NdM (ts : List S64) (all : List S74) (es : List Int) (k : Nat) : Prop where
  po : parsOk all k
  it : ∀ j : Int, 0 ≤ j → j < k → inTextB ts (rd_T74 all j).f1 (rd_T74 all j).f2 = true
  pn : ∀ j : Int, 0 ≤ j → j < k → 0 ≤ par all j → (rd_T74 all (par all j)).f1 ≤ (rd_T74 all j).f1 ∧ (rd_T74 all j).f2 ≤ (rd_T74 all (par all j)).f2
  es_ : ∀ j : Int, 0 ≤ j → j < k → (rd_T74 all j).f2 ≤ rd es (par all j + 1)
  mo : ∀ j : Int, 0 ≤ j → j + 1 < k → (rd_T74 all j).f1 ≤ (rd_T74 all (j + 1)).f1
  le : es.length = all.length + 1
theorem NdM.anc {ts : List S64} {all : List S74} {es : List Int} {k : Nat} (h : NdM ts all es k) {p : Int} : ∀ (n : Nat) (i : Int), -1 ≤ i → i < k → ancGo all p n i = p → i = p ∨ (0 ≤ i ∧ (rd_T74 all i).f2 ≤ rd es (p + 1))
  | 0, i, _, _, e => .inl e
  | n + 1, i, h0, h1, e => by
    unfold ancGo at e
    by_cases hc : 0 ≤ i ∧ i ≠ p
    · rw [if_pos hc] at e
      have hp := h.po i hc.1 h1
      right
      refine ⟨hc.1, ?_⟩
      rcases h.anc n (par all i) hp.1 (by omega) e with e2 | ⟨h2, h3⟩
      · have := h.es_ i hc.1 h1
        rwa [e2] at this
      · exact Int.le_trans (h.pn i hc.1 h1 h2).2 h3
    · rw [if_neg hc] at e; exact .inl e
theorem NdM.next {ts : List S64} {all : List S74} {es : List Int} {k : Nat} (h : NdM ts all es k) {x : S74} (hx : all[k]? = some x) (h1 : inTextB ts x.f1 x.f2 = true) (h2 : isAnc all x.f3 ((k : Int) - 1) = true)
    (h3 : ¬(0 ≤ x.f3 ∧ (x.f1 < (rd_T74 all x.f3).f1 ∨ (rd_T74 all x.f3).f2 < x.f2))) (h4 : ¬ x.f1 < rd es (x.f3 + 1)) : NdM ts all (es.set (x.f3 + 1).toNat x.f2) (k + 1) := by
  have hkl : k < all.length := (List.getElem?_eq_some_iff.1 hx).1
  have hr := isAnc_range h.po h2
  have hrx : rd_T74 all (k : Int) = x := rdT_at (by rw [Int.toNat_natCast]; exact hx)
  have hpx : par all (k : Int) = x.f3 := par_at hx
  have hlt := inTextB_lt h1
  have hset : ∀ q : Int, -1 ≤ q → rd (es.set (x.f3 + 1).toNat x.f2) (q + 1) = if q = x.f3 then x.f2 else rd es (q + 1) := by
    intro q hq
    rw [rd_set (by omega) (by rw [h.le]; omega) (by omega)]
    by_cases e : q = x.f3
    · subst e; rw [if_pos rfl, if_pos rfl]
    · rw [if_neg (by omega), if_neg e]
  refine ⟨parsOk_succ h.po (by rw [hpx]; exact hr), ?_, ?_, ?_, ?_, by rw [List.length_set]; exact h.le⟩
  · intro j hj0 hj1
    by_cases hjk : j = k
    · subst hjk; rw [hrx]; exact h1
    · exact h.it j hj0 (by omega)
  · intro j hj0 hj1 hp
    by_cases hjk : j = k
    · subst hjk
      rw [hpx] at hp ⊢
      rw [hrx]
      by_cases ha : x.f1 < (rd_T74 all x.f3).f1
      · exact absurd ⟨hp, .inl ha⟩ h3
      by_cases hb : (rd_T74 all x.f3).f2 < x.f2
      · exact absurd ⟨hp, .inr hb⟩ h3
      omega
    · exact h.pn j hj0 (by omega) hp
  · intro j hj0 hj1
    by_cases hjk : j = k
    · subst hjk
      rw [hpx, hrx, hset _ (by omega), if_pos rfl]
      exact Int.le_refl _
    · have hj := h.es_ j hj0 (by omega)
      have hp := h.po j hj0 (by omega)
      rw [hset _ hp.1]
      split
      · rename_i e
        rw [e] at hj; omega
      · exact hj
  · intro j hj0 hj1
    by_cases hjk : j + 1 = k
    · rw [hjk, hrx]
      have hj : j = (k : Int) - 1 := by omega
      rcases h.anc _ ((k : Int) - 1) (by omega) (by omega) (of_decide_eq_true h2) with e | ⟨e1, e2⟩
      · rw [hj, e]
        have h0 : 0 ≤ x.f3 := by omega
        by_cases ha : x.f1 < (rd_T74 all x.f3).f1
        · exact absurd ⟨h0, .inl ha⟩ h3
        · omega
      · have := inTextB_lt (h.it ((k : Int) - 1) (by omega) (by omega))
        rw [hj]; omega
    · exact h.mo j hj0 (by omega)
theorem nodes_monoGo {ts : List S64} {all : List S74} : ∀ (l : List S74) (es ds : List Int) (k : Nat), (nodesGo ts all es ds l k).2 = 0 → all.drop k = l → k + l.length = all.length → NdM ts all es k → ∃ es', NdM ts all es' all.length
  | [], es, ds, k, _, _, hl, hM => ⟨es, by simp at hl; rw [← hl]; exact hM⟩
  | x :: l, es, ds, k, h, hd, hl, hM => by
    have hx : all[k]? = some x := by
      have := congrArg (·[0]?) hd
      simpa [List.getElem?_drop] using this
    have hd2 : all.drop (k + 1) = l := by
      have := congrArg (List.drop 1) hd
      rw [List.drop_drop] at this
      exact this
    unfold nodesGo at h
    split at h
    · simp at h
    split at h
    · simp at h
    split at h
    · simp at h
    split at h
    · simp at h
    split at h
    · simp at h
    split at h
    · simp at h
    rename_i h1 h2 h3 h4 h5
    exact nodes_monoGo l _ _ (k + 1) h hd2 (by simp at hl; omega) (hM.next hx (by simpa using h1) (by simpa using h2) h3 h4)
theorem nodes_mono {ts : List S64} {l : List S74} (h : (nodesErr ts l).2 = 0) : ∃ es, NdM ts l es l.length := by
  unfold nodesErr at h
  split at h
  · simp at h
  · exact nodes_monoGo l _ _ 0 h rfl (by simp) ⟨fun j h0 h1 => by omega, fun j h0 h1 => by omega, fun j h0 h1 => by omega, fun j h0 h1 => by omega, fun j h0 h1 => by omega, by simp⟩
/-- A node that begins in a text lies in it. -/
theorem in_text {ts : List S64} (hS : Sep ts) {t : S64} (ht : t ∈ ts) {b e : Int} (h : inTextB ts b e = true) (h1 : t.f1 ≤ b) (h2 : b < t.f2) : e ≤ t.f2 := by
  unfold inTextB at h
  rw [find_sep hS.dis t ht (inT_iff.2 ⟨h1, h2⟩)] at h
  simp only [Bool.and_eq_true, decide_eq_true_eq] at h
  exact h.2
theorem cutN_go {ts : List S64} (hS : Sep ts) {t : S64} (ht : t ∈ ts) {all : List S74} {es : List Int} (hM : NdM ts all es all.length) : ∀ (l : List S74) (k : Nat) (f a : Int), all.drop k = l → k + l.length = all.length →
    ((f = -1 ∧ (k = 0 → a = 0) ∧ (0 < k → (rd_T74 all ((k : Int) - 1)).f1 < t.f1 → a = k) ∧ ∀ j : Int, 0 ≤ j → j < k → ¬(t.f1 ≤ (rd_T74 all j).f1 ∧ (rd_T74 all j).f2 ≤ t.f2)) ∨ (0 ≤ f ∧ f = a ∧ 0 < k ∧ t.f1 ≤ (rd_T74 all ((k : Int) - 1)).f1)) →
    cutN2 t l f k = cutN t l a k
  | [], _, _, _, _, _, _ => rfl
  | n :: l, k, f, a, hd, hl, hI => by
    have hx : all[k]? = some n := by
      have := congrArg (·[0]?) hd
      simpa [List.getElem?_drop] using this
    have hd2 : all.drop (k + 1) = l := by
      have := congrArg (List.drop 1) hd
      rw [List.drop_drop] at this
      exact this
    have hkl : k < all.length := (List.getElem?_eq_some_iff.1 hx).1
    have hrx : rd_T74 all (k : Int) = n := rdT_at (by rw [Int.toNat_natCast]; exact hx)
    have hin := hM.it k (by omega) (by omega)
    rw [hrx] at hin
    have hlt := inTextB_lt hin
    have hk1 : (((k + 1 : Nat) : Int) - 1) = (k : Int) := by omega
    have hmo : 0 < k → (rd_T74 all ((k : Int) - 1)).f1 ≤ n.f1 := fun hk => by
      have := hM.mo ((k : Int) - 1) (by omega) (by omega)
      rwa [show (k : Int) - 1 + 1 = k by omega, hrx] at this
    have hl2 : k + 1 + l.length = all.length := by simp at hl; omega
    rw [cutN2, cutN]
    by_cases h1 : n.f1 < t.f1
    · rw [if_pos (.inl h1), if_pos h1]
      refine cutN_go hS ht hM l (k + 1) f _ hd2 hl2 (.inl ?_)
      rcases hI with ⟨p1, p2, p3, p4⟩ | ⟨p1, p2, p3, p4⟩
      · refine ⟨p1, fun h => by omega, fun _ _ => by omega, fun j hj0 hj1 => ?_⟩
        by_cases hjk : j = k
        · subst hjk; rw [hrx]; omega
        · exact p4 j hj0 (by omega)
      · have := hmo p3; omega
    · by_cases h2 : n.f2 ≤ t.f2
      · rw [if_neg (by omega), if_neg h1, if_pos h2]
        have hfa : (if f < 0 then (k : Int) else f) = a := by
          rcases hI with ⟨p1, p2, p3, p4⟩ | ⟨p1, p2, p3, p4⟩
          · rw [if_pos (by omega)]
            by_cases hk0 : k = 0
            · rw [p2 hk0]; omega
            · by_cases hb : (rd_T74 all ((k : Int) - 1)).f1 < t.f1
              · exact (p3 (by omega) hb).symm
              · exfalso
                have hm := hmo (by omega)
                exact p4 ((k : Int) - 1) (by omega) (by omega) ⟨by omega, in_text hS ht (hM.it ((k : Int) - 1) (by omega) (by omega)) (by omega) (by omega)⟩
          · rw [if_neg (by omega), p2]
        rw [hfa, cutN_go hS ht hM l (k + 1) a a hd2 hl2 (.inr ⟨?_, rfl, by omega, by rw [hk1, hrx]; omega⟩)]
        rcases hI with ⟨p1, p2, p3, p4⟩ | ⟨p1, p2, p3, p4⟩
        · rw [if_pos (by omega)] at hfa; omega
        · omega
      · rw [if_pos (.inr (by omega)), if_neg h1, if_neg h2]
        refine cutN_go hS ht hM l (k + 1) f a hd2 hl2 ?_
        rcases hI with ⟨p1, p2, p3, p4⟩ | ⟨p1, p2, p3, p4⟩
        · left
          refine ⟨p1, fun h => by omega, fun _ hb => by rw [hk1, hrx] at hb; omega, fun j hj0 hj1 => ?_⟩
          by_cases hjk : j = k
          · subst hjk; rw [hrx]; omega
          · exact p4 j hj0 (by omega)
        · exact .inr ⟨p1, p2, by omega, by rw [hk1, hrx]; omega⟩
theorem cutN_same {ts : List S64} {n : Nat} {l : List S74} {t : S64} (h : (textsErr ts n).2 = 0) (h2 : (nodesErr ts l).2 = 0) (ht : t ∈ ts) : cutN2 t l (-1) 0 = cutN t l 0 0 := by
  obtain ⟨es, hM⟩ := nodes_mono h2
  exact cutN_go (texts_sep h) ht hM l 0 (-1) 0 rfl (by simp) (.inl ⟨rfl, fun _ => rfl, fun h => by omega, fun j h0 h1 => by omega⟩)
/-- A head of a token of a text is none, or lies in it. -/
theorem heads_near {ts : List S64} {n : Nat} (hS : Sep ts) {t : S64} (ht : t ∈ ts) {cy : List Bool} : ∀ (hs : List Int) (fs : List ByteArray) (k : Nat), (headsGo ts cy hs fs k).2 = 0 → hs.length = fs.length → ∀ (j : Nat) (h : Int), hs[j]? = some h → t.f1 ≤ ((k + j : Nat) : Int) → ((k + j : Nat) : Int) < t.f2 → h = -1 ∨ (t.f1 ≤ h ∧ h < t.f2)
  | [], _, _, _, _, j, h, hj, _, _ => by simp at hj
  | _ :: _, [], _, _, hl, _, _, _, _, _ => by simp at hl
  | h0 :: l, f :: m, k, hg, hl, j, h, hj, h1, h2 => by
    unfold headsGo at hg
    split at hg
    · simp at hg
    split at hg
    · simp at hg
    split at hg
    · simp at hg
    rename_i q1 _ _
    cases j with
    | zero =>
      simp at hj
      subst hj
      by_cases e : h0 = -1
      · exact .inl e
      · right
        have ht2 : txOf ts (k : Int) = t := by rw [txOf, find_sep hS.dis t ht (inT_iff.2 ⟨by simpa using h1, by simpa using h2⟩)]; rfl
        rw [ht2] at q1
        by_cases e2 : h0 < t.f1
        · exact absurd ⟨e, .inl e2⟩ q1
        by_cases e3 : t.f2 ≤ h0
        · exact absurd ⟨e, .inr e3⟩ q1
        omega
    | succ j => exact heads_near (n := n) hS ht l m (k + 1) hg (by simpa using hl) j h (by simpa using hj) (by rw [show k + 1 + j = k + (j + 1) by omega]; exact h1) (by rw [show k + 1 + j = k + (j + 1) by omega]; exact h2)
end Go.Proofs.Ytkdgholmfnidkaa
