/- The heads of a corpus: what the check returns. -/
import Derived.Test.YtkdgholmfnidkaaE
import Derived.Test.YtkdgholmfnidkaaG
namespace Go.Proofs.Ytkdgholmfnidkaa
open Go.RowKit Go.Proofs.YtkdgholmfnidkaaW.PrintWords Go.Proofs.YtkdgholmfnidkaaW.PrintLast Go.Proofs.YtkdgholmfnidkaaW.PrintMore

theorem bel_setS {w W : World} {j : Nat} {v : Value} (h : Aside0 (Below w.heap.size w W)) : Aside0 (Below w.heap.size w (W.setCell ⟨w.heap.size, j, none⟩ v)) := ⟨below_set h.out (Nat.le_refl _)⟩
def txOf (ts : List S64) (p : Int) : S64 := (ts.find? (inT p)).getD z64
def headsGo (ts : List S64) (cy : List Bool) : List Int → List ByteArray → Nat → Int × Int
  | h :: l, f :: m, k => if h ≠ -1 ∧ (h < (txOf ts k).f1 ∨ (txOf ts k).f2 ≤ h) then ((k : Int), 8) else if (!f.toList.isEmpty) = true ∧ validName f = false then ((k : Int), 4)
      else if rdB cy k = true then ((k : Int), 12) else headsGo ts cy l m (k + 1)
  | _, _, _ => (0, 0)
def headsErr (n : Nat) (ts : List S64) (hs : List Int) (fs : List ByteArray) : Int × Int :=
  if hs.length ≠ fs.length ∨ (0 < hs.length ∧ hs.length ≠ n) then (0, 15) else if 0 < hs.length ∧ noH hs fs = true then (0, 14) else headsGo ts (cyc hs) hs fs 0
theorem length_ringGo {hs : List Int} : ∀ (n : Nat) (j : Int) (b : List Bool), (ringGo hs n j b).length = b.length
  | 0, _, _ => rfl
  | n + 1, j, b => by
    unfold ringGo
    split
    · rw [length_ringGo n]; simp
    · rfl
theorem length_ringOf {hs : List Int} {k : Nat} {b : List Bool} {m : Int × List Int} : (ringOf hs k b m).length = b.length := by
  unfold ringOf
  split
  · rfl
  · exact length_ringGo _ _ _
theorem length_cycGo {hs : List Int} : ∀ (n k : Nat) (b : List Bool) (s : List Int), (cycGo hs n k b s).length = b.length
  | 0, _, _, _ => rfl
  | n + 1, k, b, s => by rw [cycGo, length_cycGo n, length_ringOf]
theorem length_cyc (hs : List Int) : (cyc hs).length = hs.length := by rw [cyc, length_cycGo, List.length_replicate]

set_option maxHeartbeats 8000000 in
set_option maxRecDepth 100000 in
theorem heads_calls (v0 v3 v4 : Value) (A1 A2 A5 A6 : Option Addr) (n c1 c2 c5 c6 : Nat) (ts : List S64) (hs : List Int) (fs : List ByteArray) (w : World) (hrt : Kd.C k64 w A2 ts.length ts)
    (hr5 : (Kd.int .i64).C w A5 hs.length hs) (hr6 : Kd.string.C w A6 fs.length fs) (hn : n ≤ 1000000000) (hok : ∀ f ∈ fs, f.size ≤ 140737488351232) (htx : ∀ k : Nat, k < n → 0 ≤ textAt ts k) :
    Calls Try.prog 38 #[.agg #[v0, .slice A1 n c1, .slice A2 ts.length c2, v3, v4, .slice A5 hs.length c5, .slice A6 fs.length c6]] w fun e w' => e = .returned (.tuple #[.int .i64 (headsErr n ts hs fs).1, .int .i64 (headsErr n ts hs fs).2]) ∧ Below w.heap.size w w' := by
  have hu30 := Try.underlying30
  have hu64 := Try.underlying64
  have hm5 := Kd.C_max hr5
  have hm6 := Kd.C_max hr6
  have HT := Aside0.mk hrt
  have H5 := Aside0.mk hr5
  have H6 := Aside0.mk hr6
  have HK := Aside0.mk hok
  have HX := Aside0.mk htx
  clear hrt hr5 hr6 hok htx
  by_cases hl : hs.length = fs.length
  rotate_left
  · have hlb : ((hs.length : Int) != (fs.length : Int)) = true := by rw [bne_iff_ne]; omega
    have HE : Aside0 (headsErr n ts hs fs = (0, 15)) := ⟨by rw [headsErr, if_pos (.inl hl)]⟩
    clear hl
    go_enter Try.func38, Try.ntmps38
    go_wp2
    go_ret2
    exact ⟨ret_two HE.out, below_alloc (Below.refl _ _) _⟩
  have hlb : ((hs.length : Int) != (fs.length : Int)) = false := by rw [bne_eq_false_iff_eq]; omega
  have hB0 := Bx.refl w #[v0, .slice A1 n c1, .slice A2 ts.length c2, v3, v4, .slice A5 hs.length c5, .slice A6 fs.length c6] 30
  have hb0 : Below w.heap.size w (w.alloc (.cells #[v0, .slice A1 n c1, .slice A2 ts.length c2, v3, v4, .slice A5 hs.length c5, .slice A6 fs.length c6] 30)) := below_alloc (Below.refl _ _) _
  have HLF := Aside0.mk hl
  clear hl
  by_cases h0 : 0 < hs.length
  rotate_left
  · have HE : Aside0 (headsErr n ts hs fs = (0, 0)) := ⟨by
      rw [headsErr, if_neg (by have := HLF.out; omega), if_neg (by omega)]
      have : hs = [] := List.length_eq_zero_iff.1 (by omega)
      subst this; rfl⟩
    have hgn : decide ((0 : Int) < (hs.length : Int)) = false := decide_eq_false (by omega)
    have hgm : decide (0 < hs.length) = false := decide_eq_false (by omega)
    have hle : hs.length ≤ 1000000000 := by omega
    clear h0
    go_enter Try.func38, Try.ntmps38
    go_wp2_with fail
    refine (cycles_calls _ _ _ _ (Kd.C_below H5.out hb0) hle).mono ?_
    rintro e w1 ⟨rfl, -, hb⟩
    have b7 := (hB0.step hb).at_
    go_wp2
    go_loopw [43] (fun i wr => i = .int .i64 0 ∧ Bx w #[v0, .slice A1 n c1, .slice A2 ts.length c2, v3, v4, .slice A5 hs.length c5, .slice A6 fs.length c6] 30 wr) (fun _ _ => 0)
    case atStart => exact ⟨rfl, hB0.step hb⟩
    case round =>
      obtain ⟨rfl, HB⟩ := hrel
      go_wp2
      go_ret2
      exact ⟨ret_two HE.out, HB.below⟩
  by_cases hln : hs.length = n
  rotate_left
  · have hlb2 : ((hs.length : Int) != (n : Int)) = true := by rw [bne_iff_ne]; omega
    have HE : Aside0 (headsErr n ts hs fs = (0, 15)) := ⟨by rw [headsErr, if_pos (.inr ⟨h0, hln⟩)]⟩
    go_enter Try.func38, Try.ntmps38
    go_wp2
    go_ret2
    exact ⟨ret_two HE.out, below_alloc (Below.refl _ _) _⟩
  have hlb2 : ((hs.length : Int) != (n : Int)) = false := by rw [bne_eq_false_iff_eq]; omega
  have hgn : decide ((0 : Int) < (hs.length : Int)) = true := decide_eq_true (by omega)
  have hgm : decide (0 < hs.length) = true := decide_eq_true (by omega)
  have HLN := Aside0.mk hln
  have hle : hs.length ≤ 1000000000 := by omega
  clear hln
  have hnc := noHeads_calls A5 A6 c5 c6 hs fs _ (Kd.C_below H5.out hb0) (Kd.C_below H6.out hb0) (by have := HLF.out; omega)
  cases hno : noH hs fs
  rotate_left
  · rw [hno] at hnc
    have HE : Aside0 (headsErr n ts hs fs = (0, 14)) := ⟨by rw [headsErr, if_neg (by have := HLF.out; have := HLN.out; omega), if_pos ⟨h0, hno⟩]⟩
    go_enter Try.func38, Try.ntmps38
    go_wp2_with (go_at_call 56; refine hnc.mono ?_; rintro e w1 ⟨rfl, rfl⟩)
    go_ret2
    exact ⟨ret_two HE.out, hb0⟩
  rw [hno] at hnc
  have H0 : Aside0 (headsErr n ts hs fs = headsGo ts (cyc hs) (hs.drop 0) (fs.drop 0) 0) := ⟨by rw [headsErr, if_neg (by have := HLF.out; have := HLN.out; omega), if_neg (by rw [hno]; simp)]; rfl⟩
  go_enter Try.func38, Try.ntmps38
  go_wp2_with (go_at_call 56; refine hnc.mono ?_; rintro e w1 ⟨rfl, rfl⟩)
  refine (cycles_calls _ _ _ _ (Kd.C_below H5.out hb0) hle).mono ?_
  rintro e w1 ⟨rfl, hj, hb⟩
  rw [World.size_alloc] at hj
  clear hnc
  have b7 := (hB0.step hb).at_
  go_wp2
  go_loopw [43] (fun i wr => ∃ k : Nat, k ≤ hs.length ∧ i = .int .i64 k ∧ Aside0 (headsErr n ts hs fs = headsGo ts (cyc hs) (hs.drop k) (fs.drop k) k) ∧ Jb wr (w.heap.size + 1) (cyc hs) ∧ Bx w #[v0, .slice A1 n c1, .slice A2 ts.length c2, v3, v4, .slice A5 hs.length c5, .slice A6 fs.length c6] 30 wr) (fun i _ => hs.length - (intOf i).toNat)
  case atStart => exact ⟨0, Nat.zero_le _, rfl, H0, hj, hB0.step hb⟩
  case round =>
    clear H0 hj hB0 hb0 hb b7
    obtain ⟨k, hk, rfl, HN, HJ, HB⟩ := hrel
    have hfl : fs.length ≤ 1000000000 ∧ (k < hs.length → k < fs.length) ∧ (k < hs.length → k < n) := by have := HLF.out; have := HLN.out; omega
    by_cases hlt : k < hs.length
    · obtain ⟨ad, h, rfl, hd, hx, g0⟩ := elI H5 HB.bel k hlt
      obtain ⟨ad6, f, rfl, hd6, hx6, g6⟩ := elS H6 HB.bel k (hfl.2.1 hlt)
      rcases textAt_cases ts (k : Int) with ⟨h1, -⟩ | ⟨j, x, hj, h1, hy, h3⟩
      · have := HX.out k (hfl.2.2 hlt); omega
      obtain ⟨ad2, y, A3, c3, rfl, -, hy', q0, q1, q2, q3, -, -⟩ := el64 HT HB.bel j hj
      obtain rfl := Option.some.inj (hy.symm.trans hy'.out)
      have hjb := HJ.at_ (k : Int) (by omega) (by rw [length_cyc]; omega)
      have htx : Aside0 (txOf ts k = x) := ⟨by rw [txOf, h3]; rfl⟩
      have HE := Aside0.mk (HN.out.trans (by rw [hd.out, hd6.out, headsGo, htx.out]))
      have hcall := fun w' hw => TextAt_calls v0 (.slice A1 n c1) v3 v4 (.slice (some ad) hs.length c5) (.slice (some ad6) fs.length c6) (some ad2) c2 ts (k : Int) w' hw
      rw [h1] at hcall
      have hs0 : f.size ≤ 9223372036854775807 := by have := HK.out f (List.mem_of_getElem? hx6.out); omega
      clear HN hy hy' h1 h3
      have b7 := HB.at_
      have p0 := (HB.at_ 0).trans rfl
      have p1 := (HB.at_ 1).trans rfl
      have p2 := (HB.at_ 2).trans rfl
      have p3 := (HB.at_ 3).trans rfl
      have p4 := (HB.at_ 4).trans rfl
      have p5 := (HB.at_ 5).trans rfl
      have p6 := (HB.at_ 6).trans rfl
      have hbs := HB.size
      have HS := bel_refl wr
      have HSD := bel_drew HS
      go_upto_region 11 with fail
      clear b7
      go_cut [8] (fun v w4 => ∃ g, v = .pointer (some ⟨g, 0, none⟩) ∧ w4.heap[g]? = some (.cells #[.string x.f0, .int .i64 x.f1, .int .i64 x.f2, .slice A3 x.f3.length c3] 64 (0, 0)) ∧ Bx w #[v0, .slice A1 n c1, .slice (some ad2) ts.length c2, v3, v4, .slice (some ad) hs.length c5, .slice (some ad6) fs.length c6] 30 w4 ∧ Jb w4 (w.heap.size + 1) (cyc hs))
      case first =>
        go_region_held3 (fun w' => w'.cell? ⟨w.heap.size, 0, none⟩ = some (v0) ∧ w'.cell? ⟨w.heap.size, 1, none⟩ = some (.slice A1 n c1) ∧ w'.cell? ⟨w.heap.size, 2, none⟩ = some (.slice (some ad2) ts.length c2) ∧ w'.cell? ⟨w.heap.size, 3, none⟩ = some (v3) ∧ w'.cell? ⟨w.heap.size, 4, none⟩ = some (v4) ∧ w'.cell? ⟨w.heap.size, 5, none⟩ = some (.slice (some ad) hs.length c5) ∧ w'.cell? ⟨w.heap.size, 6, none⟩ = some (.slice (some ad6) fs.length c6) ∧
            w'.cell? (ad2.add (j * 4)) = some (.string x.f0) ∧ w'.cell? ⟨(ad2.add (j * 4)).block, (ad2.add (j * 4)).off + 1, none⟩ = some (.int .i64 x.f1) ∧ w'.cell? ⟨(ad2.add (j * 4)).block, (ad2.add (j * 4)).off + 2, none⟩ = some (.int .i64 x.f2) ∧ w'.cell? ⟨(ad2.add (j * 4)).block, (ad2.add (j * 4)).off + 3, none⟩ = some (.slice A3 x.f3.length c3) ∧ Aside0 (Below wr.heap.size wr w'))
            (refine ⟨?_, ?_, ?_, ?_, ?_, ?_, ?_, ?_, ?_, ?_, ?_, ?_⟩ <;> first | (go_keep; done) | (refine pw_cell_below (w := wr) (Aside0.out ?_) (by assumption); (repeat' (first | exact HS | with_reducible apply bel_drew | with_reducible apply bel_alloc | with_reducible apply bel_setS | refine bel_step ?_ hb5)); done) | ((repeat' (first | exact HS | with_reducible apply bel_drew | with_reducible apply bel_alloc | with_reducible apply bel_setS | refine bel_step ?_ hb5)); done))
            (first | (go_at_call 25; refine (hcall _ (Kd.C_below HT.out (below_step HB.below (Aside0.out ?hz)))).mono ?_; (case hz => (repeat' (first | exact HS | with_reducible apply bel_drew | with_reducible apply bel_alloc | with_reducible apply bel_setS | refine bel_step ?_ hb5)); done); rintro e w5 ⟨rfl, hb5⟩; have zc := bcell hb5))
        all_goals
          go_wp2_with fail
          go_meet
        · have hW := bel_step HSD hb5
          exact ⟨_, rfl, blk_new _ _, (HB.step hW.out).alloc _, (HJ.below hW.out).alloc _⟩
        · have hW := bel_step (bel_drew (bel_alloc HS _)) hb5
          have hW2 := bel_setS (j := 3) (v := .slice A3 x.f3.length c3) (bel_setS (j := 2) (v := .int .i64 x.f2) (bel_setS (j := 1) (v := .int .i64 x.f1) (bel_setS (j := 0) (v := .string x.f0) hW)))
          have z := blk_set (blk_set (blk_set (blk_set (blk_below (blk_drew (blk_new wr _)) hb5) 0 (.string x.f0)) 1 (.int .i64 x.f1)) 2 (.int .i64 x.f2)) 3 (.slice A3 x.f3.length c3)
          exact ⟨_, rfl, z, HB.step hW2.out, HJ.below hW2.out⟩
      case rest =>
        obtain ⟨g, rfl, hg, HB4, HJ4⟩ := hcut
        clear p0 p1 p2 p3 p4 p5 p6 q0 q1 q2 q3 hcall hbs HS HSD
        have b7 := HB4.at_
        have x7 := blk_cell hg
        obtain ⟨ad6', f', hA, -, hx6', g7⟩ := elS H6 HB4.bel k (hfl.2.1 hlt)
        obtain rfl := Option.some.inj hA
        obtain rfl := Option.some.inj (hx6.out.symm.trans hx6'.out)
        have j7 := HJ4.at_ (k : Int) (by omega) (by rw [length_cyc]; omega)
        rw [Int.toNat_natCast] at j7
        by_cases hm : h = -1
        · replace HE := Aside0.mk (HE.out.trans (by rw [if_neg (fun z => z.1 hm)]))
          have hmb : (h != -1) = false := by rw [bne_eq_false_iff_eq]; exact hm
          clear hm
          cases hem : !f.toList.isEmpty
          · replace HE := Aside0.mk (HE.out.trans (by rw [hem, if_neg (by simp)]))
            cases hc : rdB (cyc hs) (k : Int)
            · rw [hc] at j7
              go_wp2_with (go_at_call 72; refine (ValidName_calls _ _ hs0).mono ?_; rintro e w5 ⟨rfl, rfl⟩)
              go_roundw
              case rel => exact ⟨k + 1, by omega, by go_num, ⟨HE.out.trans (by rw [hc, if_neg (by simp)])⟩, HJ4, HB4⟩
              case measure => simp [intOf]; omega
            · rw [hc] at j7
              go_wp2_with (go_at_call 72; refine (ValidName_calls _ _ hs0).mono ?_; rintro e w5 ⟨rfl, rfl⟩)
              go_ret2
              exact ⟨ret_two (by rw [HE.out, hc, if_pos rfl]), HB4.below⟩
          · cases hv : validName f
            · go_wp2_with (go_at_call 72; refine (ValidName_calls _ _ hs0).mono ?_; rintro e w5 ⟨rfl, rfl⟩)
              go_ret2
              exact ⟨ret_two (by rw [HE.out, hem, if_pos ⟨rfl, hv⟩]), HB4.below⟩
            · replace HE := Aside0.mk (HE.out.trans (by rw [if_neg (by rw [hv]; simp)]))
              cases hc : rdB (cyc hs) (k : Int)
              · rw [hc] at j7
                go_wp2_with (go_at_call 72; refine (ValidName_calls _ _ hs0).mono ?_; rintro e w5 ⟨rfl, rfl⟩)
                go_roundw
                case rel => exact ⟨k + 1, by omega, by go_num, ⟨HE.out.trans (by rw [hc, if_neg (by simp)])⟩, HJ4, HB4⟩
                case measure => simp [intOf]; omega
              · rw [hc] at j7
                go_wp2_with (go_at_call 72; refine (ValidName_calls _ _ hs0).mono ?_; rintro e w5 ⟨rfl, rfl⟩)
                go_ret2
                exact ⟨ret_two (by rw [HE.out, hc, if_pos rfl]), HB4.below⟩
        · have hmb : (h != -1) = true := by rw [bne_iff_ne]; exact hm
          by_cases hr1 : h < x.f1
          · go_wp2
            go_ret2
            exact ⟨ret_two (by rw [HE.out, if_pos ⟨hm, .inl hr1⟩]), HB4.below⟩
          by_cases hr2 : x.f2 ≤ h
          · go_wp2
            go_ret2
            exact ⟨ret_two (by rw [HE.out, if_pos ⟨hm, .inr hr2⟩]), HB4.below⟩
          replace HE := Aside0.mk (HE.out.trans (by rw [if_neg (fun z => z.2.elim hr1 hr2)]))
          clear hm
          cases hem : !f.toList.isEmpty
          · replace HE := Aside0.mk (HE.out.trans (by rw [hem, if_neg (by simp)]))
            cases hc : rdB (cyc hs) (k : Int)
            · rw [hc] at j7
              go_wp2_with (go_at_call 72; refine (ValidName_calls _ _ hs0).mono ?_; rintro e w5 ⟨rfl, rfl⟩)
              go_roundw
              case rel => exact ⟨k + 1, by omega, by go_num, ⟨HE.out.trans (by rw [hc, if_neg (by simp)])⟩, HJ4, HB4⟩
              case measure => simp [intOf]; omega
            · rw [hc] at j7
              go_wp2_with (go_at_call 72; refine (ValidName_calls _ _ hs0).mono ?_; rintro e w5 ⟨rfl, rfl⟩)
              go_ret2
              exact ⟨ret_two (by rw [HE.out, hc, if_pos rfl]), HB4.below⟩
          · cases hv : validName f
            · go_wp2_with (go_at_call 72; refine (ValidName_calls _ _ hs0).mono ?_; rintro e w5 ⟨rfl, rfl⟩)
              go_ret2
              exact ⟨ret_two (by rw [HE.out, hem, if_pos ⟨rfl, hv⟩]), HB4.below⟩
            · replace HE := Aside0.mk (HE.out.trans (by rw [if_neg (by rw [hv]; simp)]))
              cases hc : rdB (cyc hs) (k : Int)
              · rw [hc] at j7
                go_wp2_with (go_at_call 72; refine (ValidName_calls _ _ hs0).mono ?_; rintro e w5 ⟨rfl, rfl⟩)
                go_roundw
                case rel => exact ⟨k + 1, by omega, by go_num, ⟨HE.out.trans (by rw [hc, if_neg (by simp)])⟩, HJ4, HB4⟩
                case measure => simp [intOf]; omega
              · rw [hc] at j7
                go_wp2_with (go_at_call 72; refine (ValidName_calls _ _ hs0).mono ?_; rintro e w5 ⟨rfl, rfl⟩)
                go_ret2
                exact ⟨ret_two (by rw [HE.out, hc, if_pos rfl]), HB4.below⟩
    · go_wp2
      go_ret2
      exact ⟨ret_two (by rw [HN.out, List.drop_eq_nil_of_le (by omega)]; rfl), HB.below⟩
end Go.Proofs.Ytkdgholmfnidkaa
