/- The reference's pairs, tokens and texts. -/
import Derived.Test.YtkdgholmfnidkaaZd
namespace Go.Proofs.Ytkdgholmfnidkaa
open Go.RowKit Go.Proofs.YtkdgholmfnidkaaW.PrintWords Go.Proofs.YtkdgholmfnidkaaW.PrintLast Go.Proofs.YtkdgholmfnidkaaW.PrintMore

set_option maxHeartbeats 2000000 in
set_option maxRecDepth 100000 in
theorem rPairs_calls (A : Option Addr) (c : Nat) (l : List S70) (w : World) (hr : Kd.C k70 w A l.length l) (hok : ∀ p ∈ l, okP p) :
    Calls Try.prog 81 #[.slice A l.length c] w fun e w' => e = .returned (.int .i64 (pairsErr l)) ∧ Below w.heap.size w w' := by
  have hu := Try.underlying70
  have hm := Kd.C_max hr
  have HR := Aside0.mk hr
  have HK := Aside0.mk hok
  clear hr hok
  by_cases h8 : 8 < l.length
  · go_enter Try.func81, Try.ntmps81
    go_wp2
    go_ret
    exact ⟨ret_int (by rw [pairsErr, if_pos h8]), Below.refl _ _⟩
  have H0 : Aside0 (pairsErr l = pairsGo (prevOf l 0) (l.drop 0)) := ⟨by rw [pairsErr, if_neg h8]; rfl⟩
  go_enter Try.func81, Try.ntmps81
  go_wp2
  go_loopw [11] (fun i wr => ∃ k : Nat, k ≤ l.length ∧ i = .int .i64 k ∧ Aside0 (pairsErr l = pairsGo (prevOf l k) (l.drop k)) ∧ Aside0 (Below w.heap.size w wr)) (fun i _ => l.length - (intOf i).toNat)
  case atStart => exact ⟨0, Nat.zero_le _, rfl, H0, bel_refl _⟩
  case round =>
    clear H0
    obtain ⟨k, hk, rfl, HN, HB⟩ := hrel
    by_cases hlt : k < l.length
    · obtain ⟨ad, x, rfl, hd, hx, h0, h1⟩ := el70 HR HB k hlt
      have hox := HK.out x (List.mem_of_getElem? hx.out)
      have hs0 : x.f0.size ≤ 9223372036854775807 := by have := hox.1; omega
      have hs1 := hox.2
      clear hox
      have HE := Aside0.mk (HN.out.trans (by rw [hd.out]))
      clear HN
      cases hv : validName x.f0
      · go_wp2_with (go_at_call 79; refine (rValidName_calls _ _ hs0).mono ?_; rintro e w1 ⟨rfl, rfl⟩)
        go_ret
        exact ⟨ret_int (by rw [HE.out, pairsGo, if_pos hv]), below_alloc HB.out _⟩
      · by_cases hk0 : k = 0
        · have hg : decide ((0 : Int) < (k : Int)) = false := by simp; omega
          have hgn : decide (0 < k) = false := by simp; omega
          replace HE := Aside0.mk (HE.out.trans (by rw [pairsGo, if_neg (by rw [hv]; decide), if_neg (by rw [hk0]; simp [prevOf, notAfter])]))
          clear hk0
          cases hvv : validValue x.f1 != 0
          · replace HE := Aside0.mk (HE.out.trans (by rw [if_neg (by rw [hvv]; decide)] : _ = pairsGo (some x.f0) (l.drop (k + 1))))
            go_wp2_with (go_at_call 79; refine (rValidName_calls _ _ hs0).mono ?_; rintro e w1 ⟨rfl, rfl⟩)
            go_quiet (fail)
            go_wp2_with (go_at_call 93; refine (rValidValue_calls _ _ hs1).mono ?_; rintro e w2 ⟨rfl, hb⟩)
            go_roundw
            case rel => exact ⟨k + 1, by omega, by go_num, ⟨HE.out.trans (by rw [prevOf, if_neg (by omega), Nat.add_sub_cancel, hx.out]; rfl)⟩, bel_step (bel_drewN (bel_alloc HB _) _) hb⟩
            case measure => simp [intOf]; omega
          · replace HE := Aside0.mk (HE.out.trans (by rw [if_pos hvv] : _ = validValue x.f1))
            go_wp2_with (go_at_call 79; refine (rValidName_calls _ _ hs0).mono ?_; rintro e w1 ⟨rfl, rfl⟩)
            go_quiet (fail)
            go_wp2_with (go_at_call 93; refine (rValidValue_calls _ _ hs1).mono ?_; rintro e w2 ⟨rfl, hb⟩)
            go_ret
            exact ⟨ret_int HE.out.symm, below_step (bel_drewN (bel_alloc HB _) _).out hb⟩
        · obtain ⟨ad', y, hA, -, hy, q0, q1⟩ := el70 HR HB (k - 1) (by omega)
          obtain rfl := Option.some.inj hA
          have hg : decide ((0 : Int) < (k : Int)) = true := by simp; omega
          have hgn : decide (0 < k) = true := by simp; omega
          have g2 : ((k : Int) - 1).toNat = k - 1 := by omega
          have g3 : IntKind.i64.wrap ((k : Int) - 1) = (k : Int) - 1 := IntWalk.i64_in _ (by omega)
          have g4 : (0 : Int) ≤ (k : Int) - 1 := by omega
          have g6 : (1 : Int) ≤ (k : Int) := by omega
          replace q0 := pw_cell_below (below_alloc (Below.refl _ _) (.cells #[.string x.f0, .string x.f1] 70)) q0
          have g5 : ((k : Int) - 1) < (l.length : Int) := by omega
          replace HE := Aside0.mk (HE.out.trans (by rw [pairsGo, if_neg (by rw [hv]; decide), show prevOf l k = some y.f0 from by rw [prevOf, if_neg hk0, hy.out]; rfl]; rfl : _ = if (!Op.bytesLess y.f0.toList x.f0.toList) = true then (6 : Int) else if (validValue x.f1 != 0) = true then validValue x.f1 else pairsGo (some x.f0) (l.drop (k + 1))))
          cases hless : Op.bytesLess y.f0.toList x.f0.toList
          · go_wp2_with (first | (go_at_call 79; refine (rValidName_calls _ _ hs0).mono ?_; rintro e w1 ⟨rfl, rfl⟩))
            go_quiet (fail)
            go_wp2
            go_ret
            exact ⟨ret_int (HE.out.trans (by rw [hless]; rfl)).symm, (bel_drewN (bel_alloc HB _) _).out⟩
          · replace HE := Aside0.mk (HE.out.trans (by rw [hless, if_neg (by decide)]))
            cases hvv : validValue x.f1 != 0
            · replace HE := Aside0.mk (HE.out.trans (by rw [if_neg (by rw [hvv]; decide)] : _ = pairsGo (some x.f0) (l.drop (k + 1))))
              go_wp2_with (go_at_call 79; refine (rValidName_calls _ _ hs0).mono ?_; rintro e w1 ⟨rfl, rfl⟩)
              go_quiet (fail)
              go_wp2_with (go_at_call 93; refine (rValidValue_calls _ _ hs1).mono ?_; rintro e w2 ⟨rfl, hb⟩)
              go_roundw
              case rel => exact ⟨k + 1, by omega, by go_num, ⟨HE.out.trans (by rw [prevOf, if_neg (by omega), Nat.add_sub_cancel, hx.out]; rfl)⟩, bel_step (bel_drewN (bel_alloc HB _) _) hb⟩
              case measure => simp [intOf]; omega
            · replace HE := Aside0.mk (HE.out.trans (by rw [if_pos hvv] : _ = validValue x.f1))
              go_wp2_with (go_at_call 79; refine (rValidName_calls _ _ hs0).mono ?_; rintro e w1 ⟨rfl, rfl⟩)
              go_quiet (fail)
              go_wp2_with (go_at_call 93; refine (rValidValue_calls _ _ hs1).mono ?_; rintro e w2 ⟨rfl, hb⟩)
              go_ret
              exact ⟨ret_int HE.out.symm, below_step (bel_drewN (bel_alloc HB _) _).out hb⟩
    · go_wp2
      go_ret
      exact ⟨ret_int (by rw [HN.out, List.drop_eq_nil_of_le (by omega)]; rfl), HB.out⟩
set_option maxHeartbeats 4000000 in
set_option maxRecDepth 100000 in
theorem rTokens_calls (v2 v3 v4 v5 v6 : Value) (A A1 : Option Addr) (c c1 : Nat) (at_ : List S62) (l : List (List ByteArray)) (w : World) (hr : Kd.C k62 w A at_.length at_) (hr1 : Kd.C (Kd.slice 9 Kd.string) w A1 l.length l) (hok : ∀ t ∈ l, ∀ v ∈ t, v.size ≤ 140737488351232) :
    Calls Try.prog 40 #[.agg #[.slice A at_.length c, .slice A1 l.length c1, v2, v3, v4, v5, v6]] w fun e w' => e = .returned (.tuple #[.int .i64 (toksErr at_ l).1, .int .i64 (toksErr at_ l).2]) ∧ Below w.heap.size w w' := by
  have hu30 := Try.underlying30
  have hu62 := Try.underlying62
  have hm := Kd.C_max hr
  have hm1 := Kd.C_max hr1
  have HR := Aside0.mk hr
  have HR1 := Aside0.mk hr1
  have HK := Aside0.mk hok
  clear hr hok hr1
  by_cases h8 : 4096 < l.length
  · have HE : Aside0 (toksErr at_ l = (0, 2)) := ⟨by rw [toksErr, if_pos h8]⟩
    go_enter Try.func40, Try.ntmps40
    go_wp2
    go_ret2
    exact ⟨ret_two HE.out, below_alloc (Below.refl _ _) _⟩
  have H0 : Aside0 (toksErr at_ l = toksGo at_ (l.drop 0) 0) := ⟨by rw [toksErr, if_neg h8]; rfl⟩
  go_enter Try.func40, Try.ntmps40
  go_wp2
  go_loopw [16] (fun i wr => ∃ k : Nat, k ≤ l.length ∧ i = .int .i64 k ∧ Aside0 (toksErr at_ l = toksGo at_ (l.drop k) k) ∧ Bx w #[.slice A at_.length c, .slice A1 l.length c1, v2, v3, v4, v5, v6] 30 wr) (fun i _ => l.length - (intOf i).toNat)
  case atStart => exact ⟨0, Nat.zero_le _, rfl, H0, Bx.refl _ _ _⟩
  case round =>
    clear H0
    obtain ⟨k, hk, rfl, HN, HB⟩ := hrel
    by_cases hlt : k < l.length
    · obtain ⟨ad, x, A0, c0, rfl, hd, hx, g0, HL0, HR0⟩ := elL HR1 HB.bel k hlt
      have hs0 := Aside0.mk (HK.out x (List.mem_of_getElem? hx.out))
      have HE := Aside0.mk (HN.out.trans (by rw [hd.out, toksGo]))
      have b0 := (HB.at_ 0).trans rfl
      have hbs := HB.size
      have hmx := Kd.C_max HR0.out
      clear HN
      by_cases hln : x.length = at_.length
      · have hln' : ((x.length : Int) != (at_.length : Int)) = false := by rw [hln]; simp
        have HLN := Aside0.mk hln
        replace HE := Aside0.mk (HE.out.trans (by rw [if_neg (by simp [hln])]))
        clear hln
        go_wp2
        go_loopw [30] (fun i wr2 => ∃ j : Nat, j ≤ x.length ∧ i = .int .i64 j ∧ Aside0 (valsErr at_ x = valsErr (at_.drop j) (x.drop j)) ∧ Bx w #[.slice A at_.length c, .slice (some ad) l.length c1, v2, v3, v4, v5, v6] 30 wr2) (fun i _ => x.length - (intOf i).toNat)
        case atStart => exact ⟨0, Nat.zero_le _, rfl, ⟨rfl⟩, HB⟩
        case round =>
          clear HB
          obtain ⟨j, hj, rfl, HN, HB⟩ := hrel
          have b0 := (HB.at_ 0).trans rfl
          by_cases hjk : j < x.length
          · obtain ⟨ad', v, rfl, hdv, hv, q0⟩ := elS (⟨Kd.C_below HR0.out HB.below⟩ : Aside0 (Kd.string.C _ _ _ _)) (bel_refl _) j hjk
            have hja : j < at_.length := by have := HLN.out; omega
            obtain ⟨ad2, a, rfl, hda, -, p0, p1⟩ := el62 HR HB.bel j hja
            have hsv := hs0.out v (List.mem_of_getElem? hv.out)
            have HY := Aside0.mk (HN.out.trans (by rw [hdv.out, hda.out, valsErr]))
            clear HN
            cases he : valErr a.f1 v != 0
            · go_wp2_with (go_at_call 80; refine (rValue_calls _ _ _ _ hsv).mono ?_; rintro e w1 ⟨rfl, hb⟩)
              go_roundw
              case rel => exact ⟨j + 1, by omega, by go_num, ⟨by rw [HY.out, if_neg (by rw [he]; decide)]⟩, HB.step hb⟩
              case measure => simp [intOf]; omega
            · replace HY := Aside0.mk (HY.out.trans (by rw [if_pos he]))
              go_wp2_with (go_at_call 80; refine (rValue_calls _ _ _ _ hsv).mono ?_; rintro e w1 ⟨rfl, hb⟩)
              go_ret2
              exact ⟨ret_two (by rw [HE.out, HY.out, if_pos he]), (HB.step hb).below⟩
          · go_wp2
            go_roundw
            case rel => exact ⟨k + 1, by omega, by go_num, ⟨by rw [HE.out, if_neg]; rw [HN.out, List.drop_eq_nil_of_le (show x.length ≤ j by omega)]; cases at_.drop j <;> simp [valsErr]⟩, HB⟩
            case measure => simp [intOf]; omega
      · have hln' : ((x.length : Int) != (at_.length : Int)) = true := by simp; omega
        replace HE := Aside0.mk (HE.out.trans (by rw [if_pos hln]))
        go_wp2
        go_ret2
        exact ⟨ret_two HE.out, HB.below⟩
    · go_wp2
      go_ret2
      exact ⟨ret_two (by rw [HN.out, List.drop_eq_nil_of_le (by omega)]; rfl), HB.below⟩
theorem findGo_ge (n : ByteArray) : ∀ (l : List S64) (k : Nat) (i : Nat) (x : S64), l[i]? = some x → x.f0.toList = n.toList → ((findGo n l k < ((k + i : Nat) : Int)) ↔ ((l.take i).any fun b => b.f0.toList == n.toList) = true)
  | [], _, _, _, h, _ => by simp at h
  | a :: l, k, 0, x, h, hx => by
    obtain rfl : a = x := by simpa using h
    rw [findGo, if_pos (by simpa using hx)]
    simp
  | a :: l, k, i + 1, x, h, hx => by
    rw [findGo, List.take_succ_cons, List.any_cons]
    by_cases ha : (a.f0.toList == n.toList) = true
    · rw [if_pos ha, ha]
      simp
      omega
    · rw [if_neg ha, show k + (i + 1) = (k + 1) + i by omega, findGo_ge n l (k + 1) i x (by simpa using h) hx]
      have : (a.f0.toList == n.toList) = false := by simpa using ha
      rw [this, Bool.false_or]
theorem findText_take {l : List S64} {k : Nat} {x : S64} (h : l[k]? = some x) : (findText l x.f0 < (k : Int)) ↔ ((l.take k).any fun b => b.f0.toList == x.f0.toList) = true := by
  have := findGo_ge x.f0 l 0 k x h rfl
  rw [Nat.zero_add] at this
  exact this
set_option maxHeartbeats 4000000 in
set_option maxRecDepth 100000 in
theorem rTexts_calls (v0 v3 v4 v5 v6 : Value) (A A1 : Option Addr) (c c1 : Nat) (l : List S64) (n : Nat) (w : World) (hr : Kd.C k64 w A l.length l) (hlc : l.length ≤ c) (_ : n ≤ 9223372036854775807) (hok : ∀ t ∈ l, okT t) :
    Calls Try.prog 41 #[.agg #[v0, .slice A1 n c1, .slice A l.length c, v3, v4, v5, v6]] w fun e w' => e = .returned (.tuple #[.int .i64 (textsErr l n).1, .int .i64 (textsErr l n).2]) ∧ Below w.heap.size w w' := by
  have hu30 := Try.underlying30
  have hu64 := Try.underlying64
  have hm := Kd.C_max hr
  have HR := Aside0.mk hr
  have HK := Aside0.mk hok
  clear hr hok
  by_cases h8 : 64 < l.length
  · have HE : Aside0 (textsErr l n = (0, 2)) := ⟨by rw [textsErr, if_pos h8]⟩
    go_enter Try.func41, Try.ntmps41
    go_wp2
    go_ret2
    exact ⟨ret_two HE.out, below_alloc (Below.refl _ _) _⟩
  cases h9 : !(((l.length : Int) == 0) == ((n : Int) == 0))
  · have H0 : Aside0 (textsErr l n = textsGo l n 0 (l.drop 0) 0) := ⟨by rw [textsErr, if_neg h8, if_neg (by rw [h9]; decide)]; rfl⟩
    go_enter Try.func41, Try.ntmps41
    go_wp2
    go_loopw [5, 28] (fun en i wr => ∃ (k : Nat) (e : Int), k ≤ l.length ∧ en = .int .i64 e ∧ i = .int .i64 k ∧ Aside0 (textsErr l n = textsGo l n e (l.drop k) k) ∧ Bx w #[v0, .slice A1 n c1, .slice A l.length c, v3, v4, v5, v6] 30 wr) (fun _ i _ => l.length - (intOf i).toNat)
    case atStart => exact ⟨0, 0, Nat.zero_le _, rfl, rfl, H0, Bx.refl _ _ _⟩
    case round =>
      clear H0
      obtain ⟨k, en, hk, rfl, rfl, HN, HB⟩ := hrel
      by_cases hlt : k < l.length
      · obtain ⟨ad, x, A3, c3, rfl, hd, hx, g0, g1, g2, g3, HL3, HR3⟩ := el64 HR HB.bel k hlt
        have hox := HK.out x (List.mem_of_getElem? hx.out)
        have hs0 : x.f0.size ≤ 9223372036854775807 := by have := hox.1; omega
        have hs3 := hox.2
        have HE := Aside0.mk (HN.out.trans (by rw [hd.out, textsGo]))
        have b7 := HB.at_
        have hbs := HB.size
        clear HN hox
        cases hv : validName x.f0
        · go_wp2_with (go_at_call 79; refine (rValidName_calls _ _ hs0).mono ?_; rintro e w1 ⟨rfl, rfl⟩)
          go_ret2
          exact ⟨ret_two (by rw [HE.out, if_pos hv]), below_alloc HB.below _⟩
        replace HE := Aside0.mk (HE.out.trans (by rw [if_neg (by rw [hv]; decide)]))
        have hF : Aside0 ((findText l x.f0 < (k : Int)) ↔ ((l.take k).any fun b => b.f0.toList == x.f0.toList) = true) := ⟨findText_take hx.out⟩
        go_wp2_with (go_at_call 79; refine (rValidName_calls _ _ hs0).mono ?_; rintro e w1 ⟨rfl, rfl⟩)
        go_loopw [43] (fun i wr2 => ∃ j : Nat, j ≤ k ∧ i = .int .i64 j ∧ Aside0 (((l.take k).any fun b => b.f0.toList == x.f0.toList) = ((l.drop j).take (k - j)).any fun b => b.f0.toList == x.f0.toList) ∧ Bx wr #[.string x.f0, .int .i64 x.f1, .int .i64 x.f2, .slice A3 x.f3.length c3] 64 wr2) (fun i _ => k - (intOf i).toNat)
        case atStart => exact ⟨0, Nat.zero_le _, rfl, ⟨by simp⟩, Bx.refl _ _ _⟩
        case round =>
          obtain ⟨j, hj, rfl, HNI, HB2⟩ := hrel
          have HBw := HB.step HB2.below
          clear b7
          have b7 := HBw.at_
          have b1 := HB2.at_
          have hbs2 := HB2.size
          by_cases hjk : j < k
          · obtain ⟨ad', y, Ay, cy, hA, hdy, -, q0, q1, q2, q3, -, -⟩ := el64 HR HBw.bel j (by omega)
            obtain rfl := Option.some.inj hA
            have HY := Aside0.mk (HNI.out.trans (by rw [hdy.out, show k - j = (k - (j + 1)) + 1 by omega, List.take_succ_cons, List.any_cons] : _ = ((y.f0.toList == x.f0.toList) || ((l.drop (j + 1)).take (k - (j + 1))).any fun b => b.f0.toList == x.f0.toList)))
            clear HNI
            cases he : y.f0.toList == x.f0.toList
            · go_wp2
              go_roundw
              case rel => exact ⟨j + 1, by omega, by go_num, ⟨by rw [HY.out, he]; rfl⟩, HB2.alloc _⟩
              case measure => simp [intOf]; omega
            · go_wp2
              go_ret2
              exact ⟨ret_two (by rw [HE.out, if_pos (hF.out.2 (by rw [HY.out, he]; rfl))]), below_alloc HBw.below _⟩
          · have hnf : ¬ findText l x.f0 < (k : Int) := fun h => by
              have h1 := hF.out.1 h
              rw [HNI.out, show k - j = 0 by omega] at h1
              simp at h1
            replace HE := Aside0.mk (HE.out.trans (by rw [if_neg hnf]))
            clear hnf HNI g0 g1 g2 g3
            cases h1 : x.f1 != en
            rotate_left
            · replace HE := Aside0.mk (HE.out.trans (by rw [if_pos (Or.inl (by simpa using h1))]))
              go_wp2_with (go_at_call 81; refine (rPairs_calls A3 c3 x.f3 _ (Kd.C_below HR3.out HBw.below) hs3).mono ?_; rintro e w3 ⟨rfl, hb3⟩; have y7 := (HB2.step hb3).at_)
              go_ret2
              exact ⟨ret_two HE.out, HBw.below⟩
            by_cases h2 : x.f2 ≤ x.f1
            · replace HE := Aside0.mk (HE.out.trans (by rw [if_pos (Or.inr (Or.inl h2))]))
              go_wp2_with (go_at_call 81; refine (rPairs_calls A3 c3 x.f3 _ (Kd.C_below HR3.out HBw.below) hs3).mono ?_; rintro e w3 ⟨rfl, hb3⟩; have y7 := (HB2.step hb3).at_)
              go_ret2
              exact ⟨ret_two HE.out, HBw.below⟩
            by_cases h3 : (n : Int) < x.f2
            · replace HE := Aside0.mk (HE.out.trans (by rw [if_pos (Or.inr (Or.inr h3))]))
              go_wp2_with (go_at_call 81; refine (rPairs_calls A3 c3 x.f3 _ (Kd.C_below HR3.out HBw.below) hs3).mono ?_; rintro e w3 ⟨rfl, hb3⟩; have y7 := (HB2.step hb3).at_)
              go_ret2
              exact ⟨ret_two HE.out, HBw.below⟩
            replace HE := Aside0.mk (HE.out.trans (by rw [if_neg (by rintro (h | h | h); exact h (by simpa using h1); exact h2 h; exact h3 h)]))
            cases h4 : (k : Int) == ((l.length : Int) - 1)
            · have h4' : ¬ k + 1 = l.length := by have := beq_eq_false_iff_ne.1 h4; omega
              replace HE := Aside0.mk (HE.out.trans (by rw [if_neg (fun h => h4' h.1)]))
              clear h4'
              cases h6 : pairsErr x.f3 != 0
              · replace HE := Aside0.mk (HE.out.trans (by rw [if_neg (by rw [h6]; decide)]))
                go_wp2_with (go_at_call 81; refine (rPairs_calls A3 c3 x.f3 _ (Kd.C_below HR3.out HBw.below) hs3).mono ?_; rintro e w3 ⟨rfl, hb3⟩; have y7 := (HB2.step hb3).at_)
                go_roundw
                case rel => exact ⟨k + 1, x.f2, by omega, rfl, by go_num, HE, HBw.step hb3⟩
                case measure => simp [intOf]; omega
              · replace HE := Aside0.mk (HE.out.trans (by rw [if_pos h6]))
                go_wp2_with (go_at_call 81; refine (rPairs_calls A3 c3 x.f3 _ (Kd.C_below HR3.out HBw.below) hs3).mono ?_; rintro e w3 ⟨rfl, hb3⟩; have y7 := (HB2.step hb3).at_)
                go_ret2
                exact ⟨ret_two HE.out, (HBw.step hb3).below⟩
            · have h4' : k + 1 = l.length := by have := beq_iff_eq.1 h4; omega
              cases h5 : x.f2 != (n : Int)
              · replace HE := Aside0.mk (HE.out.trans (by rw [if_neg (fun h => h.2 (by simpa using h5))]))
                clear h4'
                cases h6 : pairsErr x.f3 != 0
                · replace HE := Aside0.mk (HE.out.trans (by rw [if_neg (by rw [h6]; decide)]))
                  go_wp2_with (go_at_call 81; refine (rPairs_calls A3 c3 x.f3 _ (Kd.C_below HR3.out HBw.below) hs3).mono ?_; rintro e w3 ⟨rfl, hb3⟩; have y7 := (HB2.step hb3).at_)
                  go_roundw
                  case rel => exact ⟨k + 1, x.f2, by omega, rfl, by go_num, HE, HBw.step hb3⟩
                  case measure => simp [intOf]; omega
                · replace HE := Aside0.mk (HE.out.trans (by rw [if_pos h6]))
                  go_wp2_with (go_at_call 81; refine (rPairs_calls A3 c3 x.f3 _ (Kd.C_below HR3.out HBw.below) hs3).mono ?_; rintro e w3 ⟨rfl, hb3⟩; have y7 := (HB2.step hb3).at_)
                  go_ret2
                  exact ⟨ret_two HE.out, (HBw.step hb3).below⟩
              · replace HE := Aside0.mk (HE.out.trans (by rw [if_pos ⟨h4', by simpa using h5⟩]))
                clear h4'
                go_wp2_with (go_at_call 81; refine (rPairs_calls A3 c3 x.f3 _ (Kd.C_below HR3.out HBw.below) hs3).mono ?_; rintro e w3 ⟨rfl, hb3⟩; have y7 := (HB2.step hb3).at_)
                go_ret2
                exact ⟨ret_two HE.out, HBw.below⟩
      · go_wp2
        go_ret2
        exact ⟨ret_two (by rw [HN.out, List.drop_eq_nil_of_le (by omega)]; rfl), HB.below⟩
  · have HE : Aside0 (textsErr l n = (0, 15)) := ⟨by rw [textsErr, if_neg h8, if_pos h9]⟩
    go_enter Try.func41, Try.ntmps41
    go_wp2
    go_ret2
    exact ⟨ret_two HE.out, below_alloc (Below.refl _ _) _⟩

end Go.Proofs.Ytkdgholmfnidkaa
