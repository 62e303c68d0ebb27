/- The reference's feature sets and values. -/
import Derived.Test.YtkdgholmfnidkaaZa
import Derived.Test.YtkdgholmfnidkaaZf
namespace Go.Proofs.Ytkdgholmfnidkaa
open Go.RowKit Go.Proofs.YtkdgholmfnidkaaW.PrintWords Go.Proofs.YtkdgholmfnidkaaW.PrintLast Go.Proofs.YtkdgholmfnidkaaW.PrintMore

set_option maxHeartbeats 4000000 in
set_option maxRecDepth 100000 in
theorem rFeatParse_calls (s : ByteArray) (w : World) (hs : s.size ≤ 140737488351232) : Calls Try.prog 92 #[.string s] w fun e w' => (∃ v, e = .returned (.tuple #[v, .int .i64 (featErr s)])) ∧ Below w.heap.size w w' := by
  cases hv : validValue s != 0
  · have hl : s.size ≤ 120 := by
      rcases Nat.lt_or_ge 120 s.size with h | h
      · rw [validValue_long h] at hv; simp at hv
      · exact h
    cases h2 : (s.size : Int) == 0
    rotate_left
    · have HF : Aside0 (featErr s = 3) := ⟨by
        have h2' : ¬ 0 < s.size := by have := beq_iff_eq.1 h2; omega
        rw [featErr, hv, if_neg (by decide), if_pos]; rw [barred, dif_neg h2']⟩
      go_enter Try.func92, Try.ntmps92
      go_wp2_with (go_at_call 93; refine (rValidValue_calls _ _ hs).mono ?_; rintro e w1 ⟨rfl, hb⟩)
      go_ret2
      exact ⟨ret_err _ HF.out.symm, hb⟩
    have h0 : 0 < s.size := by have := beq_eq_false_iff_ne.1 h2; omega
    cases h3 : (s[0].toNat : Int) != 124
    · cases h4 : (s[s.size - 1].toNat : Int) != 124
      · have hb1 : barred s = true := by
          have e3 : (s[0].toNat : Int) = 124 := by simpa using h3
          have e4 : (s[s.size - 1].toNat : Int) = 124 := by simpa using h4
          rw [barred, dif_pos h0, e3, e4]; rfl
        have HF : Aside0 (featErr s = cutErr (cutGo s s.size 1 1 [])) := ⟨by rw [featErr, hv, if_neg (by decide), hb1, if_neg (by decide)]⟩
        clear hb1
        have gi : ((s.size : Int) - 1).toNat = s.size - 1 := by omega
        go_enter Try.func92, Try.ntmps92
        go_wp2_with (go_at_call 93; refine (rValidValue_calls _ _ hs).mono ?_; rintro e w1 ⟨rfl, hb⟩)
        have HB0 := Aside0.mk hb
        have HG := Aside0.mk gi
        have H0 := Aside0.mk h0
        clear hb
        go_loopw [6, 7, 8] (fun v b i wr => ∃ (bn k f : Nat) (acc : List ByteArray), b = .int .i64 bn ∧ i = .int .i64 k ∧ 1 ≤ bn ∧ bn ≤ k ∧ k ≤ s.size ∧ acc.length ≤ k ∧ Aside0 (s.size ≤ f + k) ∧ Aside0 (featErr s = cutErr (cutGo s f bn k acc)) ∧
            Aside0 (wr.ownsRow w.heap.size 9 1 v acc.length (encs Value.string acc)) ∧ Aside0 (Below w.heap.size w wr)) (fun _ _ i _ => s.size - (intOf i).toNat)
        case atStart => exact ⟨1, 1, s.size, [], rfl, rfl, by omega, by omega, by omega, by simp, ⟨by omega⟩, HF, ⟨own_nil _ _ _ _⟩, HB0⟩
        case round =>
          clear HF HB0
          obtain ⟨bn, k, f, acc, rfl, rfl, hb1, hb2, hk, hal, Hf, HN, HO, HB⟩ := hrel
          by_cases hlt : k < s.size
          · obtain ⟨f, rfl⟩ : ∃ m, f = m + 1 := ⟨f - 1, by have := Hf.out; omega⟩
            cases hc : (s[k].toNat : Int) != 124
            · have hc' : (s[k].toNat : Int) = 124 := by simpa using hc
              by_cases hkb : k = bn
              · have HE := Aside0.mk (HN.out.trans (by rw [cutGo, dif_pos hlt, if_pos hc', if_pos hkb]; rfl : _ = (3 : Int)))
                subst hkb
                clear HN hc'
                go_wp2
                go_ret2
                exact ⟨ret_err _ HE.out.symm, HB.out⟩
              · have HE := Aside0.mk (HN.out.trans (by rw [cutGo, dif_pos hlt, if_pos hc', if_neg hkb] : _ = cutErr (cutGo s f (k + 1) (k + 1) (acc ++ [s.extract bn k]))))
                have hkb' : ((k : Int) == (bn : Int)) = false := by simp; omega
                have HI := Aside0.mk info9
                clear HN hc' hkb
                go_wp2_with (at_builtin; refine print_append_of Value.string w.heap.size rfl (.tmp 43) (.tmp 48) 28 9 (.string ⟨#[]⟩) 16 rfl Try.underlying28 HI.out rfl (by decide) u6 acc (s.extract bn k) rfl rfl rfl HO.out HB.out HB.out.size (by omega) ?_; intro v1 w3 hown hB1 _ _)
                go_roundw
                case rel => exact ⟨k + 1, k + 1, f, acc ++ [s.extract bn k], by go_num, by go_num, by omega, by omega, by omega, by simp; omega, ⟨by have := Hf.out; omega⟩, HE, ⟨hown⟩, ⟨hB1⟩⟩
                case measure => simp [intOf]; omega
            · have hc' : (s[k].toNat : Int) ≠ 124 := by simpa using hc
              have HE := Aside0.mk (HN.out.trans (by rw [cutGo, dif_pos hlt, if_neg hc'] : _ = cutErr (cutGo s f bn (k + 1) acc)))
              clear HN hc'
              go_wp2
              go_roundw
              case rel => exact ⟨bn, k + 1, f, acc, rfl, by go_num, by omega, by omega, by omega, by omega, ⟨by have := Hf.out; omega⟩, HE, HO, HB⟩
              case measure => simp [intOf]; omega
          · have HE := Aside0.mk (HN.out.trans (by rw [cutGo_end _ _ _ _ _ hlt]; rfl : _ = if ascB acc = true then (0 : Int) else 6))
            clear HN Hf
            obtain ⟨A, c, rfl, HR0⟩ := own_reads_of (d := ByteArray.empty) HO.out
            go_wp2
            have HR := Aside0.mk HR0
            have HLN := Aside0.mk HR0.1
            have hln := HR0.2.1
            clear HR0 HO
            go_loopw [9] (fun i wr2 => ∃ j : Nat, i = .int .i64 ((j : Int) + 1) ∧ j ≤ acc.length ∧ Aside0 (featErr s = if ascB (acc.drop j) = true then 0 else 6) ∧ (∀ a, wr2.cell? a = wr.cell? a) ∧ Aside0 (Below w.heap.size w wr2)) (fun i _ => acc.length + 1 - (intOf i).toNat)
            case atStart => exact ⟨0, by simp, Nat.zero_le _, HE, fun _ => rfl, HB⟩
            case round =>
              clear HE
              obtain ⟨j, rfl, hjl, HN, hcell, HB2⟩ := hrel
              by_cases hj : j + 1 < acc.length
              · obtain ⟨ad, hA, q0⟩ := HR.out.at_ (j : Int) (by omega) (by omega)
                obtain ⟨ad', hA', q1⟩ := HR.out.at_ ((j : Int) + 1) (by omega) (by omega)
                subst hA
                obtain rfl := Option.some.inj hA'
                rw [Int.toNat_natCast] at q0
                have q0' := (hcell _).trans q0
                have q1' := (hcell _).trans q1
                have HA := Aside0.mk (ascB_drop acc j hj)
                have HC := Aside0.mk hcell
                obtain ⟨x, hx⟩ : ∃ x, rdOf ByteArray.empty acc (j : Int) = x := ⟨_, rfl⟩
                obtain ⟨y, hy⟩ : ∃ y, rdOf ByteArray.empty acc ((j : Int) + 1) = y := ⟨_, rfl⟩
                rw [hx] at q0'
                rw [hy] at q1'
                replace HA := Aside0.mk (HA.out.trans (by rw [hx, hy]))
                clear q0 q1 hcell hx hy
                have g1 : ((j : Nat) : Int) + 1 < ((acc.length : Nat) : Int) := by omega
                have g2 : ((j : Nat) : Int) < ((acc.length : Nat) : Int) := by omega
                have g3 : (0 : Int) ≤ (j : Int) := by omega
                have g4 : (0 : Int) ≤ (j : Int) + 1 := by omega
                have q2' := q1'
                rw [show ((j : Int) + 1).toNat = j + 1 from by omega, add_succ] at q2'
                have g6 : IntKind.i64.wrap (j : Int) = (j : Int) := IntWalk.i64_in _ (by omega)
                have g7 : IntKind.i64.wrap ((j : Int) + 1 - 1) = (j : Int) := by rw [Int.add_sub_cancel]; exact g6
                cases hless : Op.bytesLess x.toList y.toList
                · go_wp2
                  go_quiet (fail)
                  go_wp2
                  go_ret2
                  exact ⟨ret_err _ (by rw [HN.out, HA.out, hless]; rfl), (bel_drewN HB2 _).out⟩
                · go_wp2
                  go_quiet (fail)
                  go_wp2
                  go_roundw
                  case rel => exact ⟨j + 1, by go_num, by omega, ⟨by rw [HN.out, HA.out, hless]; rfl⟩, fun a => by simpa using HC.out a, bel_drewN HB2 _⟩
                  case measure => simp [intOf]; omega
              · have g1 : ¬ ((j : Nat) : Int) + 1 < ((acc.length : Nat) : Int) := by omega
                have HS := Aside0.mk (ascB_short acc j hj)
                clear hcell
                go_wp2
                go_ret2
                exact ⟨ret_err _ (by rw [HN.out, HS.out]; rfl), HB2.out⟩
      · have HF : Aside0 (featErr s = 3) := ⟨by
          have e4 : (s[s.size - 1].toNat : Int) ≠ 124 := by simpa using h4
          rw [featErr, hv, if_neg (by decide), if_pos]
          rw [barred, dif_pos h0, decide_eq_false e4, Bool.and_false]⟩
        have gi : ((s.size : Int) - 1).toNat = s.size - 1 := by omega
        go_enter Try.func92, Try.ntmps92
        go_wp2_with (go_at_call 93; refine (rValidValue_calls _ _ hs).mono ?_; rintro e w1 ⟨rfl, hb⟩)
        go_ret2
        exact ⟨ret_err _ HF.out.symm, hb⟩
    · have HF : Aside0 (featErr s = 3) := ⟨by
        have e3 : (s[0].toNat : Int) ≠ 124 := by simpa using h3
        rw [featErr, hv, if_neg (by decide), if_pos]
        rw [barred, dif_pos h0, decide_eq_false e3, Bool.false_and]⟩
      go_enter Try.func92, Try.ntmps92
      go_wp2_with (go_at_call 93; refine (rValidValue_calls _ _ hs).mono ?_; rintro e w1 ⟨rfl, hb⟩)
      go_ret2
      exact ⟨ret_err _ HF.out.symm, hb⟩
  · have HF : Aside0 (featErr s = validValue s) := ⟨by rw [featErr, if_pos hv]⟩
    go_enter Try.func92, Try.ntmps92
    go_wp2_with (go_at_call 93; refine (rValidValue_calls _ _ hs).mono ?_; rintro e w1 ⟨rfl, hb⟩)
    go_ret2
    exact ⟨ret_err _ HF.out.symm, hb⟩
set_option maxHeartbeats 1000000 in
set_option maxRecDepth 100000 in
theorem rValue_calls (u : Value) (b : Bool) (v : ByteArray) (w : World) (hs : v.size ≤ 140737488351232) :
    Calls Try.prog 80 #[.agg #[u, .bool b], .string v] w fun e w' => e = .returned (.int .i64 (valErr b v)) ∧ Below w.heap.size w w' := by
  have hu := Try.underlying62
  cases b
  · go_enter Try.func80, Try.ntmps80
    go_wp2_with (go_at_call 93; refine (rValidValue_calls _ _ hs).mono ?_; rintro e w1 ⟨rfl, hb⟩)
    go_ret
    exact ⟨rfl, below_step (below_alloc (Below.refl _ _) _) hb⟩
  · go_enter Try.func80, Try.ntmps80
    go_wp2_with (go_at_call 92; refine (rFeatParse_calls _ _ hs).mono ?_; rintro e w1 ⟨⟨v1, rfl⟩, hb⟩)
    go_ret
    exact ⟨rfl, below_step (below_alloc (Below.refl _ _) _) hb⟩
end Go.Proofs.Ytkdgholmfnidkaa
