/- The reference's small checks: names, heads without content. The reference's feature sets and values. The reference's pairs, tokens and texts. -/
import Derived.Test.YtkdgholmfnidkaaH
import Derived.Test.YtkdgholmfnidkaaZU
namespace Go.Proofs.Ytkdgholmfnidkaa
open Go.RowKit Go.Proofs.YtkdgholmfnidkaaW.PrintWords Go.Proofs.YtkdgholmfnidkaaW.PrintLast Go.Proofs.YtkdgholmfnidkaaW.PrintMore

set_option maxHeartbeats 1000000 in
theorem rBare_calls (A A' : Option Addr) (c c' : Nat) (hs : List Int) (rs : List ByteArray) (w : World) (hr : Kd.C (Kd.int .i64) w A hs.length hs) (hr' : Kd.C Kd.string w A' rs.length rs) (hl : hs.length ≤ rs.length) :
    Calls Try.prog 58 #[.slice A hs.length c, .slice A' rs.length c'] w fun x w' => x = .returned (.bool (noH hs rs)) ∧ w = w' := by
  have hm := Kd.C_max hr
  have hm' := Kd.C_max hr'
  have HR := Aside0.mk hr
  have HR' := Aside0.mk hr'
  clear hr hr'
  go_enter Try.func58, Try.ntmps58
  go_wp2
  go_loop [8] (fun i => ∃ k : Nat, k ≤ hs.length ∧ i = .int .i64 k ∧ Aside0 (noH hs rs = noH (hs.drop k) (rs.drop k))) (fun i => hs.length - (intOf i).toNat)
  case atStart => exact ⟨0, Nat.zero_le _, rfl, ⟨rfl⟩⟩
  case round =>
    obtain ⟨k, hk, rfl, HN⟩ := hrel
    by_cases hlt : k < hs.length
    · obtain ⟨ad, x, rfl, hd, -, h0⟩ := elI HR ⟨Below.refl _ _⟩ k hlt
      obtain ⟨ad', y, rfl, hd', -, h0'⟩ := elS HR' ⟨Below.refl _ _⟩ k (by omega)
      have hlt' : k < rs.length := by omega
      go_wp2
      all_goals first
        | (go_ret
           exact ⟨ret_bool (by rw [HN.out, hd.out, hd'.out]; simp_all [noH]), rfl⟩)
        | (go_round
           case rel => exact ⟨k + 1, by omega, by go_num, ⟨by rw [HN.out, hd.out, hd'.out]; simp_all [noH]⟩⟩
           case measure => simp [intOf]; omega)
    · go_wp2
      go_ret
      exact ⟨ret_bool (by rw [HN.out, List.drop_eq_nil_of_le (by omega)]; rfl), rfl⟩
set_option maxHeartbeats 1000000 in
theorem rValidName_calls (s : ByteArray) (w : World) (hs : s.size ≤ 9223372036854775807) : Calls Try.prog 79 #[.string s] w fun e w' => e = .returned (.bool (validName s)) ∧ w = w' := by
  by_cases h0 : s.size < 1
  · go_enter Try.func79, Try.ntmps79
    go_wp2
    go_ret
    exact ⟨ret_bool (validName_none h0).symm, rfl⟩
  by_cases h1 : 32 < s.size
  · go_enter Try.func79, Try.ntmps79
    go_wp2
    go_ret
    exact ⟨ret_bool (validName_long h1).symm, rfl⟩
  have hp : 0 < s.size := by omega
  cases hb : isB (s[0].toNat : Int)
  · go_enter Try.func79, Try.ntmps79
    go_wp2_with (go_at_call 90; refine (First_calls _ _).mono ?_; rintro e w' ⟨rfl, rfl⟩)
    go_ret
    exact ⟨ret_bool (validName_head hp hb).symm, rfl⟩
  · have HV := Aside0.mk (validName_tail hp (by omega) hb)
    go_enter Try.func79, Try.ntmps79
    go_wp2_with (go_at_call 90; refine (First_calls _ _).mono ?_; rintro e w' ⟨rfl, rfl⟩)
    go_loop [3] (fun i => ∃ k : Nat, 1 ≤ k ∧ k ≤ s.size ∧ i = .int .i64 k ∧ Aside0 (validName s = ((bytesOf s).drop k).all isN)) (fun i => s.size - (intOf i).toNat)
    case atStart => exact ⟨1, Nat.le_refl _, by omega, rfl, HV⟩
    case round =>
      obtain ⟨k, hk1, hk, rfl, HN⟩ := hrel
      by_cases hlt : k < s.size
      · have hd := Aside0.mk (drop_bytes s k hlt)
        cases hc : isN (s[k].toNat : Int)
        · go_wp2_with (go_at_call 91; refine (Next_calls _ _).mono ?_; rintro e w' ⟨rfl, rfl⟩)
          go_ret
          exact ⟨ret_bool (by rw [HN.out, hd.out]; simp [hc]), rfl⟩
        · go_wp2_with (go_at_call 91; refine (Next_calls _ _).mono ?_; rintro e w' ⟨rfl, rfl⟩)
          go_round
          case rel => exact ⟨k + 1, by omega, by omega, by go_num, ⟨by rw [HN.out, hd.out]; simp [hc]⟩⟩
          case measure => simp [intOf]; omega
      · go_wp2
        go_ret
        exact ⟨ret_bool (by rw [HN.out, List.drop_eq_nil_of_le (by rw [bytesOf_length]; omega)]; rfl), rfl⟩
set_option maxHeartbeats 2000000 in
set_option maxRecDepth 100000 in
theorem rAttributes_calls (A : Option Addr) (c : Nat) (l : List S62) (w : World) (hr : Kd.C k62 w A l.length l) (hlc : l.length ≤ c) (hok : ∀ a ∈ l, a.f0.size ≤ 140737488351232) :
    Calls Try.prog 39 #[.slice A l.length c] w fun e w' => e = .returned (.tuple #[.int .i64 (attrsErr l).1, .int .i64 (attrsErr l).2]) ∧ Below w.heap.size w w' := by
  have hu30 := Try.underlying30
  have hu62 := Try.underlying62
  have hm := Kd.C_max hr
  have HR := Aside0.mk hr
  have HK := Aside0.mk hok
  clear hr hok
  by_cases h0 : l.length = 0
  · have h0' : ((l.length : Int) == 0) = true := by simp [h0]
    have HE : Aside0 (attrsErr l = (0, 15)) := ⟨by rw [attrsErr, if_pos h0]⟩
    clear h0
    go_enter Try.func39, Try.ntmps39
    go_wp2
    go_ret2
    exact ⟨ret_two HE.out, Below.refl _ _⟩
  have h0' : ((l.length : Int) == 0) = false := beq_eq_false_iff_ne.2 (by omega)
  by_cases h8 : 8 < l.length
  · have HE : Aside0 (attrsErr l = (0, 2)) := ⟨by rw [attrsErr, if_neg h0, if_pos h8]⟩
    go_enter Try.func39, Try.ntmps39
    go_wp2
    go_ret2
    exact ⟨ret_two HE.out, Below.refl _ _⟩
  have H0 : Aside0 (attrsErr l = attrsGo l (l.drop 0) 0) := ⟨by rw [attrsErr, if_neg h0, if_neg h8]; rfl⟩
  go_enter Try.func39, Try.ntmps39
  go_wp2
  go_loopw [16] (fun i wr => ∃ k : Nat, k ≤ l.length ∧ i = .int .i64 k ∧ Aside0 (attrsErr l = attrsGo l (l.drop k) k) ∧ Aside0 (Below w.heap.size w wr)) (fun i _ => l.length - (intOf i).toNat)
  case atStart => exact ⟨0, Nat.zero_le _, rfl, H0, bel_refl _⟩
  case round =>
    clear H0
    obtain ⟨k, hk, rfl, HN, HB⟩ := hrel
    by_cases hlt : k < l.length
    · obtain ⟨ad, x, rfl, hd, hx, g0, g1⟩ := el62 HR HB k hlt
      have hs0 : x.f0.size ≤ 9223372036854775807 := by have := HK.out x (List.mem_of_getElem? hx.out); omega
      have HE := Aside0.mk (HN.out.trans (by rw [hd.out]))
      clear HN
      cases hv : validName x.f0
      · go_wp2_with (go_at_call 79; refine (rValidName_calls _ _ hs0).mono ?_; rintro e w1 ⟨rfl, rfl⟩)
        go_ret2
        exact ⟨ret_two (by rw [HE.out, attrsGo, if_pos hv]), below_alloc HB.out _⟩
      · replace HE := Aside0.mk (HE.out.trans (by rw [attrsGo, if_neg (by rw [hv]; decide)]))
        go_wp2_with (go_at_call 79; refine (rValidName_calls _ _ hs0).mono ?_; rintro e w1 ⟨rfl, rfl⟩)
        go_loopw [30] (fun i wr2 => ∃ j : Nat, j ≤ k ∧ i = .int .i64 j ∧ Aside0 (((l.take k).any fun b => b.f0.toList == x.f0.toList) = ((l.drop j).take (k - j)).any fun b => b.f0.toList == x.f0.toList) ∧ Bx wr #[.string x.f0, .bool x.f1] 62 wr2) (fun i _ => k - (intOf i).toNat)
        case atStart => exact ⟨0, Nat.zero_le _, rfl, ⟨by simp⟩, Bx.refl _ _ _⟩
        case round =>
          obtain ⟨j, hj, rfl, HN, HB2⟩ := hrel
          have HBw := bel_step HB HB2.below
          have b1 := (HB2.at_ 0).trans rfl
          by_cases hjk : j < k
          · obtain ⟨ad', y, hA, hdy, -, q0, q1⟩ := el62 HR HBw j (by omega)
            obtain rfl := Option.some.inj hA
            have HY := Aside0.mk (HN.out.trans (by rw [hdy.out, show k - j = (k - (j + 1)) + 1 by omega, List.take_succ_cons, List.any_cons] : _ = ((y.f0.toList == x.f0.toList) || ((l.drop (j + 1)).take (k - (j + 1))).any fun b => b.f0.toList == x.f0.toList)))
            have hbs2 := HB2.size
            clear HN
            have hsym : (x.f0.toList == y.f0.toList) = (y.f0.toList == x.f0.toList) := by rw [Bool.eq_iff_iff, beq_iff_eq, beq_iff_eq]; exact eq_comm
            have HSYM := Aside0.mk hsym
            clear hsym
            cases he : y.f0.toList == x.f0.toList
            · have he2 := HSYM.out.trans he
              go_wp2
              go_roundw
              case rel => exact ⟨j + 1, by omega, by go_num, ⟨by rw [HY.out, he]; rfl⟩, HB2.alloc _⟩
              case measure => simp [intOf]; omega
            · have he2 := HSYM.out.trans he
              go_wp2
              go_ret2
              exact ⟨ret_two (by rw [HE.out, if_pos (by rw [HY.out, he]; rfl)]), below_alloc HBw.out _⟩
          · go_wp2
            go_roundw
            case rel => exact ⟨k + 1, by omega, by go_num, ⟨by rw [HE.out, if_neg (by rw [HN.out, show k - j = 0 by omega]; simp)]⟩, HBw⟩
            case measure => simp [intOf]; omega
    · go_wp2
      go_ret2
      exact ⟨ret_two (by rw [HN.out, List.drop_eq_nil_of_le (by omega)]; rfl), HB.out⟩
set_option maxHeartbeats 4000000 in
set_option maxRecDepth 100000 in
theorem rFeatParse_calls (s : ByteArray) (w : World) (hs : s.size ≤ 140737488351232) : Calls Try.prog 92 #[.string s] w fun e w' => (∃ v, e = .returned (.tuple #[v, .int .i64 (featErr s)])) ∧ Below w.heap.size w w' := by
  cases hv : validValue s != 0
  · have hl : s.size ≤ 120 := by
      rcases Nat.lt_or_ge 120 s.size with h | h
      · rw [validValue_long h] at hv; simp at hv
      · exact h
    cases h2 : (s.size : Int) == 0
    rotate_left
    · have HF : Aside0 (featErr s = 3) := ⟨by
        have h2' : ¬ 0 < s.size := by have := beq_iff_eq.1 h2; omega
        rw [featErr, hv, if_neg (by decide), if_pos]; rw [barred, dif_neg h2']⟩
      go_enter Try.func92, Try.ntmps92
      go_wp2_with (go_at_call 93; refine (rValidValue_calls _ _ hs).mono ?_; rintro e w1 ⟨rfl, hb⟩)
      go_ret2
      exact ⟨ret_err _ HF.out.symm, hb⟩
    have h0 : 0 < s.size := by have := beq_eq_false_iff_ne.1 h2; omega
    cases h3 : (s[0].toNat : Int) != 124
    · cases h4 : (s[s.size - 1].toNat : Int) != 124
      · have hb1 : barred s = true := by
          have e3 : (s[0].toNat : Int) = 124 := by simpa using h3
          have e4 : (s[s.size - 1].toNat : Int) = 124 := by simpa using h4
          rw [barred, dif_pos h0, e3, e4]; rfl
        have HF : Aside0 (featErr s = cutErr (cutGo s s.size 1 1 [])) := ⟨by rw [featErr, hv, if_neg (by decide), hb1, if_neg (by decide)]⟩
        clear hb1
        have gi : ((s.size : Int) - 1).toNat = s.size - 1 := by omega
        go_enter Try.func92, Try.ntmps92
        go_wp2_with (go_at_call 93; refine (rValidValue_calls _ _ hs).mono ?_; rintro e w1 ⟨rfl, hb⟩)
        have HB0 := Aside0.mk hb
        have HG := Aside0.mk gi
        have H0 := Aside0.mk h0
        clear hb
        go_loopw [6, 7, 8] (fun v b i wr => ∃ (bn k f : Nat) (acc : List ByteArray), b = .int .i64 bn ∧ i = .int .i64 k ∧ 1 ≤ bn ∧ bn ≤ k ∧ k ≤ s.size ∧ acc.length ≤ k ∧ Aside0 (s.size ≤ f + k) ∧ Aside0 (featErr s = cutErr (cutGo s f bn k acc)) ∧
            Aside0 (wr.ownsRow w.heap.size 9 1 v acc.length (encs Value.string acc)) ∧ Aside0 (Below w.heap.size w wr)) (fun _ _ i _ => s.size - (intOf i).toNat)
        case atStart => exact ⟨1, 1, s.size, [], rfl, rfl, by omega, by omega, by omega, by simp, ⟨by omega⟩, HF, ⟨own_nil _ _ _ _⟩, HB0⟩
        case round =>
          clear HF HB0
          obtain ⟨bn, k, f, acc, rfl, rfl, hb1, hb2, hk, hal, Hf, HN, HO, HB⟩ := hrel
          by_cases hlt : k < s.size
          · obtain ⟨f, rfl⟩ : ∃ m, f = m + 1 := ⟨f - 1, by have := Hf.out; omega⟩
            cases hc : (s[k].toNat : Int) != 124
            · have hc' : (s[k].toNat : Int) = 124 := by simpa using hc
              by_cases hkb : k = bn
              · have HE := Aside0.mk (HN.out.trans (by rw [cutGo, dif_pos hlt, if_pos hc', if_pos hkb]; rfl : _ = (3 : Int)))
                subst hkb
                clear HN hc'
                go_wp2
                go_ret2
                exact ⟨ret_err _ HE.out.symm, HB.out⟩
              · have HE := Aside0.mk (HN.out.trans (by rw [cutGo, dif_pos hlt, if_pos hc', if_neg hkb] : _ = cutErr (cutGo s f (k + 1) (k + 1) (acc ++ [s.extract bn k]))))
                have hkb' : ((k : Int) == (bn : Int)) = false := by simp; omega
                have HI := Aside0.mk info9
                clear HN hc' hkb
                go_wp2_with (at_builtin; refine print_append_of Value.string w.heap.size rfl (.tmp 43) (.tmp 48) 28 9 (.string ⟨#[]⟩) 16 rfl Try.underlying28 HI.out rfl (by decide) u6 acc (s.extract bn k) rfl rfl rfl HO.out HB.out HB.out.size (by omega) ?_; intro v1 w3 hown hB1 _ _)
                go_roundw
                case rel => exact ⟨k + 1, k + 1, f, acc ++ [s.extract bn k], by go_num, by go_num, by omega, by omega, by omega, by simp; omega, ⟨by have := Hf.out; omega⟩, HE, ⟨hown⟩, ⟨hB1⟩⟩
                case measure => simp [intOf]; omega
            · have hc' : (s[k].toNat : Int) ≠ 124 := by simpa using hc
              have HE := Aside0.mk (HN.out.trans (by rw [cutGo, dif_pos hlt, if_neg hc'] : _ = cutErr (cutGo s f bn (k + 1) acc)))
              clear HN hc'
              go_wp2
              go_roundw
              case rel => exact ⟨bn, k + 1, f, acc, rfl, by go_num, by omega, by omega, by omega, by omega, ⟨by have := Hf.out; omega⟩, HE, HO, HB⟩
              case measure => simp [intOf]; omega
          · have HE := Aside0.mk (HN.out.trans (by rw [cutGo_end _ _ _ _ _ hlt]; rfl : _ = if ascB acc = true then (0 : Int) else 6))
            clear HN Hf
            obtain ⟨A, c, rfl, HR0⟩ := own_reads_of (d := ByteArray.empty) HO.out
            go_wp2
            have HR := Aside0.mk HR0
            have HLN := Aside0.mk HR0.1
            have hln := HR0.2.1
            clear HR0 HO
            go_loopw [9] (fun i wr2 => ∃ j : Nat, i = .int .i64 ((j : Int) + 1) ∧ j ≤ acc.length ∧ Aside0 (featErr s = if ascB (acc.drop j) = true then 0 else 6) ∧ (∀ a, wr2.cell? a = wr.cell? a) ∧ Aside0 (Below w.heap.size w wr2)) (fun i _ => acc.length + 1 - (intOf i).toNat)
            case atStart => exact ⟨0, by simp, Nat.zero_le _, HE, fun _ => rfl, HB⟩
            case round =>
              clear HE
              obtain ⟨j, rfl, hjl, HN, hcell, HB2⟩ := hrel
              by_cases hj : j + 1 < acc.length
              · obtain ⟨ad, hA, q0⟩ := HR.out.at_ (j : Int) (by omega) (by omega)
                obtain ⟨ad', hA', q1⟩ := HR.out.at_ ((j : Int) + 1) (by omega) (by omega)
                subst hA
                obtain rfl := Option.some.inj hA'
                rw [Int.toNat_natCast] at q0
                have q0' := (hcell _).trans q0
                have q1' := (hcell _).trans q1
                have HA := Aside0.mk (ascB_drop acc j hj)
                have HC := Aside0.mk hcell
                obtain ⟨x, hx⟩ : ∃ x, rdOf ByteArray.empty acc (j : Int) = x := ⟨_, rfl⟩
                obtain ⟨y, hy⟩ : ∃ y, rdOf ByteArray.empty acc ((j : Int) + 1) = y := ⟨_, rfl⟩
                rw [hx] at q0'
                rw [hy] at q1'
                replace HA := Aside0.mk (HA.out.trans (by rw [hx, hy]))
                clear q0 q1 hcell hx hy
                have g1 : ((j : Nat) : Int) + 1 < ((acc.length : Nat) : Int) := by omega
                have g2 : ((j : Nat) : Int) < ((acc.length : Nat) : Int) := by omega
                have g3 : (0 : Int) ≤ (j : Int) := by omega
                have g4 : (0 : Int) ≤ (j : Int) + 1 := by omega
                have q2' := q1'
                rw [show ((j : Int) + 1).toNat = j + 1 from by omega, add_succ] at q2'
                have g6 : IntKind.i64.wrap (j : Int) = (j : Int) := IntWalk.i64_in _ (by omega)
                have g7 : IntKind.i64.wrap ((j : Int) + 1 - 1) = (j : Int) := by rw [Int.add_sub_cancel]; exact g6
                cases hless : Op.bytesLess x.toList y.toList
                · go_wp2
                  go_quiet (fail)
                  go_wp2
                  go_ret2
                  exact ⟨ret_err _ (by rw [HN.out, HA.out, hless]; rfl), (bel_drewN HB2 _).out⟩
                · go_wp2
                  go_quiet (fail)
                  go_wp2
                  go_roundw
                  case rel => exact ⟨j + 1, by go_num, by omega, ⟨by rw [HN.out, HA.out, hless]; rfl⟩, fun a => by simpa using HC.out a, bel_drewN HB2 _⟩
                  case measure => simp [intOf]; omega
              · have g1 : ¬ ((j : Nat) : Int) + 1 < ((acc.length : Nat) : Int) := by omega
                have HS := Aside0.mk (ascB_short acc j hj)
                clear hcell
                go_wp2
                go_ret2
                exact ⟨ret_err _ (by rw [HN.out, HS.out]; rfl), HB2.out⟩
      · have HF : Aside0 (featErr s = 3) := ⟨by
          have e4 : (s[s.size - 1].toNat : Int) ≠ 124 := by simpa using h4
          rw [featErr, hv, if_neg (by decide), if_pos]
          rw [barred, dif_pos h0, decide_eq_false e4, Bool.and_false]⟩
        have gi : ((s.size : Int) - 1).toNat = s.size - 1 := by omega
        go_enter Try.func92, Try.ntmps92
        go_wp2_with (go_at_call 93; refine (rValidValue_calls _ _ hs).mono ?_; rintro e w1 ⟨rfl, hb⟩)
        go_ret2
        exact ⟨ret_err _ HF.out.symm, hb⟩
    · have HF : Aside0 (featErr s = 3) := ⟨by
        have e3 : (s[0].toNat : Int) ≠ 124 := by simpa using h3
        rw [featErr, hv, if_neg (by decide), if_pos]
        rw [barred, dif_pos h0, decide_eq_false e3, Bool.false_and]⟩
      go_enter Try.func92, Try.ntmps92
      go_wp2_with (go_at_call 93; refine (rValidValue_calls _ _ hs).mono ?_; rintro e w1 ⟨rfl, hb⟩)
      go_ret2
      exact ⟨ret_err _ HF.out.symm, hb⟩
  · have HF : Aside0 (featErr s = validValue s) := ⟨by rw [featErr, if_pos hv]⟩
    go_enter Try.func92, Try.ntmps92
    go_wp2_with (go_at_call 93; refine (rValidValue_calls _ _ hs).mono ?_; rintro e w1 ⟨rfl, hb⟩)
    go_ret2
    exact ⟨ret_err _ HF.out.symm, hb⟩
set_option maxHeartbeats 1000000 in
set_option maxRecDepth 100000 in
theorem rValue_calls (u : Value) (b : Bool) (v : ByteArray) (w : World) (hs : v.size ≤ 140737488351232) :
    Calls Try.prog 80 #[.agg #[u, .bool b], .string v] w fun e w' => e = .returned (.int .i64 (valErr b v)) ∧ Below w.heap.size w w' := by
  have hu := Try.underlying62
  cases b
  · go_enter Try.func80, Try.ntmps80
    go_wp2_with (go_at_call 93; refine (rValidValue_calls _ _ hs).mono ?_; rintro e w1 ⟨rfl, hb⟩)
    go_ret
    exact ⟨rfl, below_step (below_alloc (Below.refl _ _) _) hb⟩
  · go_enter Try.func80, Try.ntmps80
    go_wp2_with (go_at_call 92; refine (rFeatParse_calls _ _ hs).mono ?_; rintro e w1 ⟨⟨v1, rfl⟩, hb⟩)
    go_ret
    exact ⟨rfl, below_step (below_alloc (Below.refl _ _) _) hb⟩
set_option maxHeartbeats 2000000 in
set_option maxRecDepth 100000 in
theorem rPairs_calls (A : Option Addr) (c : Nat) (l : List S70) (w : World) (hr : Kd.C k70 w A l.length l) (hok : ∀ p ∈ l, okP p) :
    Calls Try.prog 81 #[.slice A l.length c] w fun e w' => e = .returned (.int .i64 (pairsErr l)) ∧ Below w.heap.size w w' := by
  have hu := Try.underlying70
  have hm := Kd.C_max hr
  have HR := Aside0.mk hr
  have HK := Aside0.mk hok
  clear hr hok
  by_cases h8 : 8 < l.length
  · go_enter Try.func81, Try.ntmps81
    go_wp2
    go_ret
    exact ⟨ret_int (by rw [pairsErr, if_pos h8]), Below.refl _ _⟩
  have H0 : Aside0 (pairsErr l = pairsGo (prevOf l 0) (l.drop 0)) := ⟨by rw [pairsErr, if_neg h8]; rfl⟩
  go_enter Try.func81, Try.ntmps81
  go_wp2
  go_loopw [11] (fun i wr => ∃ k : Nat, k ≤ l.length ∧ i = .int .i64 k ∧ Aside0 (pairsErr l = pairsGo (prevOf l k) (l.drop k)) ∧ Aside0 (Below w.heap.size w wr)) (fun i _ => l.length - (intOf i).toNat)
  case atStart => exact ⟨0, Nat.zero_le _, rfl, H0, bel_refl _⟩
  case round =>
    clear H0
    obtain ⟨k, hk, rfl, HN, HB⟩ := hrel
    by_cases hlt : k < l.length
    · obtain ⟨ad, x, rfl, hd, hx, h0, h1⟩ := el70 HR HB k hlt
      have hox := HK.out x (List.mem_of_getElem? hx.out)
      have hs0 : x.f0.size ≤ 9223372036854775807 := by have := hox.1; omega
      have hs1 := hox.2
      clear hox
      have HE := Aside0.mk (HN.out.trans (by rw [hd.out]))
      clear HN
      cases hv : validName x.f0
      · go_wp2_with (go_at_call 79; refine (rValidName_calls _ _ hs0).mono ?_; rintro e w1 ⟨rfl, rfl⟩)
        go_ret
        exact ⟨ret_int (by rw [HE.out, pairsGo, if_pos hv]), below_alloc HB.out _⟩
      · by_cases hk0 : k = 0
        · have hg : decide ((0 : Int) < (k : Int)) = false := by simp; omega
          have hgn : decide (0 < k) = false := by simp; omega
          replace HE := Aside0.mk (HE.out.trans (by rw [pairsGo, if_neg (by rw [hv]; decide), if_neg (by rw [hk0]; simp [prevOf, notAfter])]))
          clear hk0
          cases hvv : validValue x.f1 != 0
          · replace HE := Aside0.mk (HE.out.trans (by rw [if_neg (by rw [hvv]; decide)] : _ = pairsGo (some x.f0) (l.drop (k + 1))))
            go_wp2_with (go_at_call 79; refine (rValidName_calls _ _ hs0).mono ?_; rintro e w1 ⟨rfl, rfl⟩)
            go_quiet (fail)
            go_wp2_with (go_at_call 93; refine (rValidValue_calls _ _ hs1).mono ?_; rintro e w2 ⟨rfl, hb⟩)
            go_roundw
            case rel => exact ⟨k + 1, by omega, by go_num, ⟨HE.out.trans (by rw [prevOf, if_neg (by omega), Nat.add_sub_cancel, hx.out]; rfl)⟩, bel_step (bel_drewN (bel_alloc HB _) _) hb⟩
            case measure => simp [intOf]; omega
          · replace HE := Aside0.mk (HE.out.trans (by rw [if_pos hvv] : _ = validValue x.f1))
            go_wp2_with (go_at_call 79; refine (rValidName_calls _ _ hs0).mono ?_; rintro e w1 ⟨rfl, rfl⟩)
            go_quiet (fail)
            go_wp2_with (go_at_call 93; refine (rValidValue_calls _ _ hs1).mono ?_; rintro e w2 ⟨rfl, hb⟩)
            go_ret
            exact ⟨ret_int HE.out.symm, below_step (bel_drewN (bel_alloc HB _) _).out hb⟩
        · obtain ⟨ad', y, hA, -, hy, q0, q1⟩ := el70 HR HB (k - 1) (by omega)
          obtain rfl := Option.some.inj hA
          have hg : decide ((0 : Int) < (k : Int)) = true := by simp; omega
          have hgn : decide (0 < k) = true := by simp; omega
          have g2 : ((k : Int) - 1).toNat = k - 1 := by omega
          have g3 : IntKind.i64.wrap ((k : Int) - 1) = (k : Int) - 1 := IntWalk.i64_in _ (by omega)
          have g4 : (0 : Int) ≤ (k : Int) - 1 := by omega
          have g6 : (1 : Int) ≤ (k : Int) := by omega
          replace q0 := pw_cell_below (below_alloc (Below.refl _ _) (.cells #[.string x.f0, .string x.f1] 70)) q0
          have g5 : ((k : Int) - 1) < (l.length : Int) := by omega
          replace HE := Aside0.mk (HE.out.trans (by rw [pairsGo, if_neg (by rw [hv]; decide), show prevOf l k = some y.f0 from by rw [prevOf, if_neg hk0, hy.out]; rfl]; rfl : _ = if (!Op.bytesLess y.f0.toList x.f0.toList) = true then (6 : Int) else if (validValue x.f1 != 0) = true then validValue x.f1 else pairsGo (some x.f0) (l.drop (k + 1))))
          cases hless : Op.bytesLess y.f0.toList x.f0.toList
          · go_wp2_with (first | (go_at_call 79; refine (rValidName_calls _ _ hs0).mono ?_; rintro e w1 ⟨rfl, rfl⟩))
            go_quiet (fail)
            go_wp2
            go_ret
            exact ⟨ret_int (HE.out.trans (by rw [hless]; rfl)).symm, (bel_drewN (bel_alloc HB _) _).out⟩
          · replace HE := Aside0.mk (HE.out.trans (by rw [hless, if_neg (by decide)]))
            cases hvv : validValue x.f1 != 0
            · replace HE := Aside0.mk (HE.out.trans (by rw [if_neg (by rw [hvv]; decide)] : _ = pairsGo (some x.f0) (l.drop (k + 1))))
              go_wp2_with (go_at_call 79; refine (rValidName_calls _ _ hs0).mono ?_; rintro e w1 ⟨rfl, rfl⟩)
              go_quiet (fail)
              go_wp2_with (go_at_call 93; refine (rValidValue_calls _ _ hs1).mono ?_; rintro e w2 ⟨rfl, hb⟩)
              go_roundw
              case rel => exact ⟨k + 1, by omega, by go_num, ⟨HE.out.trans (by rw [prevOf, if_neg (by omega), Nat.add_sub_cancel, hx.out]; rfl)⟩, bel_step (bel_drewN (bel_alloc HB _) _) hb⟩
              case measure => simp [intOf]; omega
            · replace HE := Aside0.mk (HE.out.trans (by rw [if_pos hvv] : _ = validValue x.f1))
              go_wp2_with (go_at_call 79; refine (rValidName_calls _ _ hs0).mono ?_; rintro e w1 ⟨rfl, rfl⟩)
              go_quiet (fail)
              go_wp2_with (go_at_call 93; refine (rValidValue_calls _ _ hs1).mono ?_; rintro e w2 ⟨rfl, hb⟩)
              go_ret
              exact ⟨ret_int HE.out.symm, below_step (bel_drewN (bel_alloc HB _) _).out hb⟩
    · go_wp2
      go_ret
      exact ⟨ret_int (by rw [HN.out, List.drop_eq_nil_of_le (by omega)]; rfl), HB.out⟩
set_option maxHeartbeats 4000000 in
set_option maxRecDepth 100000 in
theorem rTokens_calls (v2 v3 v4 v5 v6 : Value) (A A1 : Option Addr) (c c1 : Nat) (at_ : List S62) (l : List (List ByteArray)) (w : World) (hr : Kd.C k62 w A at_.length at_) (hr1 : Kd.C (Kd.slice 9 Kd.string) w A1 l.length l) (hok : ∀ t ∈ l, ∀ v ∈ t, v.size ≤ 140737488351232) :
    Calls Try.prog 40 #[.agg #[.slice A at_.length c, .slice A1 l.length c1, v2, v3, v4, v5, v6]] w fun e w' => e = .returned (.tuple #[.int .i64 (toksErr at_ l).1, .int .i64 (toksErr at_ l).2]) ∧ Below w.heap.size w w' := by
  have hu30 := Try.underlying30
  have hu62 := Try.underlying62
  have hm := Kd.C_max hr
  have hm1 := Kd.C_max hr1
  have HR := Aside0.mk hr
  have HR1 := Aside0.mk hr1
  have HK := Aside0.mk hok
  clear hr hok hr1
  by_cases h8 : 4096 < l.length
  · have HE : Aside0 (toksErr at_ l = (0, 2)) := ⟨by rw [toksErr, if_pos h8]⟩
    go_enter Try.func40, Try.ntmps40
    go_wp2
    go_ret2
    exact ⟨ret_two HE.out, below_alloc (Below.refl _ _) _⟩
  have H0 : Aside0 (toksErr at_ l = toksGo at_ (l.drop 0) 0) := ⟨by rw [toksErr, if_neg h8]; rfl⟩
  go_enter Try.func40, Try.ntmps40
  go_wp2
  go_loopw [16] (fun i wr => ∃ k : Nat, k ≤ l.length ∧ i = .int .i64 k ∧ Aside0 (toksErr at_ l = toksGo at_ (l.drop k) k) ∧ Bx w #[.slice A at_.length c, .slice A1 l.length c1, v2, v3, v4, v5, v6] 30 wr) (fun i _ => l.length - (intOf i).toNat)
  case atStart => exact ⟨0, Nat.zero_le _, rfl, H0, Bx.refl _ _ _⟩
  case round =>
    clear H0
    obtain ⟨k, hk, rfl, HN, HB⟩ := hrel
    by_cases hlt : k < l.length
    · obtain ⟨ad, x, A0, c0, rfl, hd, hx, g0, HL0, HR0⟩ := elL HR1 HB.bel k hlt
      have hs0 := Aside0.mk (HK.out x (List.mem_of_getElem? hx.out))
      have HE := Aside0.mk (HN.out.trans (by rw [hd.out, toksGo]))
      have b0 := (HB.at_ 0).trans rfl
      have hbs := HB.size
      have hmx := Kd.C_max HR0.out
      clear HN
      by_cases hln : x.length = at_.length
      · have hln' : ((x.length : Int) != (at_.length : Int)) = false := by rw [hln]; simp
        have HLN := Aside0.mk hln
        replace HE := Aside0.mk (HE.out.trans (by rw [if_neg (by simp [hln])]))
        clear hln
        go_wp2
        go_loopw [30] (fun i wr2 => ∃ j : Nat, j ≤ x.length ∧ i = .int .i64 j ∧ Aside0 (valsErr at_ x = valsErr (at_.drop j) (x.drop j)) ∧ Bx w #[.slice A at_.length c, .slice (some ad) l.length c1, v2, v3, v4, v5, v6] 30 wr2) (fun i _ => x.length - (intOf i).toNat)
        case atStart => exact ⟨0, Nat.zero_le _, rfl, ⟨rfl⟩, HB⟩
        case round =>
          clear HB
          obtain ⟨j, hj, rfl, HN, HB⟩ := hrel
          have b0 := (HB.at_ 0).trans rfl
          by_cases hjk : j < x.length
          · obtain ⟨ad', v, rfl, hdv, hv, q0⟩ := elS (⟨Kd.C_below HR0.out HB.below⟩ : Aside0 (Kd.string.C _ _ _ _)) (bel_refl _) j hjk
            have hja : j < at_.length := by have := HLN.out; omega
            obtain ⟨ad2, a, rfl, hda, -, p0, p1⟩ := el62 HR HB.bel j hja
            have hsv := hs0.out v (List.mem_of_getElem? hv.out)
            have HY := Aside0.mk (HN.out.trans (by rw [hdv.out, hda.out, valsErr]))
            clear HN
            cases he : valErr a.f1 v != 0
            · go_wp2_with (go_at_call 80; refine (rValue_calls _ _ _ _ hsv).mono ?_; rintro e w1 ⟨rfl, hb⟩)
              go_roundw
              case rel => exact ⟨j + 1, by omega, by go_num, ⟨by rw [HY.out, if_neg (by rw [he]; decide)]⟩, HB.step hb⟩
              case measure => simp [intOf]; omega
            · replace HY := Aside0.mk (HY.out.trans (by rw [if_pos he]))
              go_wp2_with (go_at_call 80; refine (rValue_calls _ _ _ _ hsv).mono ?_; rintro e w1 ⟨rfl, hb⟩)
              go_ret2
              exact ⟨ret_two (by rw [HE.out, HY.out, if_pos he]), (HB.step hb).below⟩
          · go_wp2
            go_roundw
            case rel => exact ⟨k + 1, by omega, by go_num, ⟨by rw [HE.out, if_neg]; rw [HN.out, List.drop_eq_nil_of_le (show x.length ≤ j by omega)]; cases at_.drop j <;> simp [valsErr]⟩, HB⟩
            case measure => simp [intOf]; omega
      · have hln' : ((x.length : Int) != (at_.length : Int)) = true := by simp; omega
        replace HE := Aside0.mk (HE.out.trans (by rw [if_pos hln]))
        go_wp2
        go_ret2
        exact ⟨ret_two HE.out, HB.below⟩
    · go_wp2
      go_ret2
      exact ⟨ret_two (by rw [HN.out, List.drop_eq_nil_of_le (by omega)]; rfl), HB.below⟩
theorem findGo_ge (n : ByteArray) : ∀ (l : List S64) (k : Nat) (i : Nat) (x : S64), l[i]? = some x → x.f0.toList = n.toList → ((findGo n l k < ((k + i : Nat) : Int)) ↔ ((l.take i).any fun b => b.f0.toList == n.toList) = true)
  | [], _, _, _, h, _ => by simp at h
  | a :: l, k, 0, x, h, hx => by
    obtain rfl : a = x := by simpa using h
    rw [findGo, if_pos (by simpa using hx)]
    simp
  | a :: l, k, i + 1, x, h, hx => by
    rw [findGo, List.take_succ_cons, List.any_cons]
    by_cases ha : (a.f0.toList == n.toList) = true
    · rw [if_pos ha, ha]
      simp
      omega
    · rw [if_neg ha, show k + (i + 1) = (k + 1) + i by omega, findGo_ge n l (k + 1) i x (by simpa using h) hx]
      have : (a.f0.toList == n.toList) = false := by simpa using ha
      rw [this, Bool.false_or]
theorem findText_take {l : List S64} {k : Nat} {x : S64} (h : l[k]? = some x) : (findText l x.f0 < (k : Int)) ↔ ((l.take k).any fun b => b.f0.toList == x.f0.toList) = true := by
  have := findGo_ge x.f0 l 0 k x h rfl
  rw [Nat.zero_add] at this
  exact this
set_option maxHeartbeats 4000000 in
set_option maxRecDepth 100000 in
theorem rTexts_calls (v0 v3 v4 v5 v6 : Value) (A A1 : Option Addr) (c c1 : Nat) (l : List S64) (n : Nat) (w : World) (hr : Kd.C k64 w A l.length l) (hlc : l.length ≤ c) (_ : n ≤ 9223372036854775807) (hok : ∀ t ∈ l, okT t) :
    Calls Try.prog 41 #[.agg #[v0, .slice A1 n c1, .slice A l.length c, v3, v4, v5, v6]] w fun e w' => e = .returned (.tuple #[.int .i64 (textsErr l n).1, .int .i64 (textsErr l n).2]) ∧ Below w.heap.size w w' := by
  have hu30 := Try.underlying30
  have hu64 := Try.underlying64
  have hm := Kd.C_max hr
  have HR := Aside0.mk hr
  have HK := Aside0.mk hok
  clear hr hok
  by_cases h8 : 64 < l.length
  · have HE : Aside0 (textsErr l n = (0, 2)) := ⟨by rw [textsErr, if_pos h8]⟩
    go_enter Try.func41, Try.ntmps41
    go_wp2
    go_ret2
    exact ⟨ret_two HE.out, below_alloc (Below.refl _ _) _⟩
  cases h9 : !(((l.length : Int) == 0) == ((n : Int) == 0))
  · have H0 : Aside0 (textsErr l n = textsGo l n 0 (l.drop 0) 0) := ⟨by rw [textsErr, if_neg h8, if_neg (by rw [h9]; decide)]; rfl⟩
    go_enter Try.func41, Try.ntmps41
    go_wp2
    go_loopw [5, 28] (fun en i wr => ∃ (k : Nat) (e : Int), k ≤ l.length ∧ en = .int .i64 e ∧ i = .int .i64 k ∧ Aside0 (textsErr l n = textsGo l n e (l.drop k) k) ∧ Bx w #[v0, .slice A1 n c1, .slice A l.length c, v3, v4, v5, v6] 30 wr) (fun _ i _ => l.length - (intOf i).toNat)
    case atStart => exact ⟨0, 0, Nat.zero_le _, rfl, rfl, H0, Bx.refl _ _ _⟩
    case round =>
      clear H0
      obtain ⟨k, en, hk, rfl, rfl, HN, HB⟩ := hrel
      by_cases hlt : k < l.length
      · obtain ⟨ad, x, A3, c3, rfl, hd, hx, g0, g1, g2, g3, HL3, HR3⟩ := el64 HR HB.bel k hlt
        have hox := HK.out x (List.mem_of_getElem? hx.out)
        have hs0 : x.f0.size ≤ 9223372036854775807 := by have := hox.1; omega
        have hs3 := hox.2
        have HE := Aside0.mk (HN.out.trans (by rw [hd.out, textsGo]))
        have b7 := HB.at_
        have hbs := HB.size
        clear HN hox
        cases hv : validName x.f0
        · go_wp2_with (go_at_call 79; refine (rValidName_calls _ _ hs0).mono ?_; rintro e w1 ⟨rfl, rfl⟩)
          go_ret2
          exact ⟨ret_two (by rw [HE.out, if_pos hv]), below_alloc HB.below _⟩
        replace HE := Aside0.mk (HE.out.trans (by rw [if_neg (by rw [hv]; decide)]))
        have hF : Aside0 ((findText l x.f0 < (k : Int)) ↔ ((l.take k).any fun b => b.f0.toList == x.f0.toList) = true) := ⟨findText_take hx.out⟩
        go_wp2_with (go_at_call 79; refine (rValidName_calls _ _ hs0).mono ?_; rintro e w1 ⟨rfl, rfl⟩)
        go_loopw [43] (fun i wr2 => ∃ j : Nat, j ≤ k ∧ i = .int .i64 j ∧ Aside0 (((l.take k).any fun b => b.f0.toList == x.f0.toList) = ((l.drop j).take (k - j)).any fun b => b.f0.toList == x.f0.toList) ∧ Bx wr #[.string x.f0, .int .i64 x.f1, .int .i64 x.f2, .slice A3 x.f3.length c3] 64 wr2) (fun i _ => k - (intOf i).toNat)
        case atStart => exact ⟨0, Nat.zero_le _, rfl, ⟨by simp⟩, Bx.refl _ _ _⟩
        case round =>
          obtain ⟨j, hj, rfl, HNI, HB2⟩ := hrel
          have HBw := HB.step HB2.below
          clear b7
          have b7 := HBw.at_
          have b1 := HB2.at_
          have hbs2 := HB2.size
          by_cases hjk : j < k
          · obtain ⟨ad', y, Ay, cy, hA, hdy, -, q0, q1, q2, q3, -, -⟩ := el64 HR HBw.bel j (by omega)
            obtain rfl := Option.some.inj hA
            have HY := Aside0.mk (HNI.out.trans (by rw [hdy.out, show k - j = (k - (j + 1)) + 1 by omega, List.take_succ_cons, List.any_cons] : _ = ((y.f0.toList == x.f0.toList) || ((l.drop (j + 1)).take (k - (j + 1))).any fun b => b.f0.toList == x.f0.toList)))
            clear HNI
            cases he : y.f0.toList == x.f0.toList
            · go_wp2
              go_roundw
              case rel => exact ⟨j + 1, by omega, by go_num, ⟨by rw [HY.out, he]; rfl⟩, HB2.alloc _⟩
              case measure => simp [intOf]; omega
            · go_wp2
              go_ret2
              exact ⟨ret_two (by rw [HE.out, if_pos (hF.out.2 (by rw [HY.out, he]; rfl))]), below_alloc HBw.below _⟩
          · have hnf : ¬ findText l x.f0 < (k : Int) := fun h => by
              have h1 := hF.out.1 h
              rw [HNI.out, show k - j = 0 by omega] at h1
              simp at h1
            replace HE := Aside0.mk (HE.out.trans (by rw [if_neg hnf]))
            clear hnf HNI g0 g1 g2 g3
            cases h1 : x.f1 != en
            rotate_left
            · replace HE := Aside0.mk (HE.out.trans (by rw [if_pos (Or.inl (by simpa using h1))]))
              go_wp2_with (go_at_call 81; refine (rPairs_calls A3 c3 x.f3 _ (Kd.C_below HR3.out HBw.below) hs3).mono ?_; rintro e w3 ⟨rfl, hb3⟩; have y7 := (HB2.step hb3).at_)
              go_ret2
              exact ⟨ret_two HE.out, HBw.below⟩
            by_cases h2 : x.f2 ≤ x.f1
            · replace HE := Aside0.mk (HE.out.trans (by rw [if_pos (Or.inr (Or.inl h2))]))
              go_wp2_with (go_at_call 81; refine (rPairs_calls A3 c3 x.f3 _ (Kd.C_below HR3.out HBw.below) hs3).mono ?_; rintro e w3 ⟨rfl, hb3⟩; have y7 := (HB2.step hb3).at_)
              go_ret2
              exact ⟨ret_two HE.out, HBw.below⟩
            by_cases h3 : (n : Int) < x.f2
            · replace HE := Aside0.mk (HE.out.trans (by rw [if_pos (Or.inr (Or.inr h3))]))
              go_wp2_with (go_at_call 81; refine (rPairs_calls A3 c3 x.f3 _ (Kd.C_below HR3.out HBw.below) hs3).mono ?_; rintro e w3 ⟨rfl, hb3⟩; have y7 := (HB2.step hb3).at_)
              go_ret2
              exact ⟨ret_two HE.out, HBw.below⟩
            replace HE := Aside0.mk (HE.out.trans (by rw [if_neg (by rintro (h | h | h); exact h (by simpa using h1); exact h2 h; exact h3 h)]))
            cases h4 : (k : Int) == ((l.length : Int) - 1)
            · have h4' : ¬ k + 1 = l.length := by have := beq_eq_false_iff_ne.1 h4; omega
              replace HE := Aside0.mk (HE.out.trans (by rw [if_neg (fun h => h4' h.1)]))
              clear h4'
              cases h6 : pairsErr x.f3 != 0
              · replace HE := Aside0.mk (HE.out.trans (by rw [if_neg (by rw [h6]; decide)]))
                go_wp2_with (go_at_call 81; refine (rPairs_calls A3 c3 x.f3 _ (Kd.C_below HR3.out HBw.below) hs3).mono ?_; rintro e w3 ⟨rfl, hb3⟩; have y7 := (HB2.step hb3).at_)
                go_roundw
                case rel => exact ⟨k + 1, x.f2, by omega, rfl, by go_num, HE, HBw.step hb3⟩
                case measure => simp [intOf]; omega
              · replace HE := Aside0.mk (HE.out.trans (by rw [if_pos h6]))
                go_wp2_with (go_at_call 81; refine (rPairs_calls A3 c3 x.f3 _ (Kd.C_below HR3.out HBw.below) hs3).mono ?_; rintro e w3 ⟨rfl, hb3⟩; have y7 := (HB2.step hb3).at_)
                go_ret2
                exact ⟨ret_two HE.out, (HBw.step hb3).below⟩
            · have h4' : k + 1 = l.length := by have := beq_iff_eq.1 h4; omega
              cases h5 : x.f2 != (n : Int)
              · replace HE := Aside0.mk (HE.out.trans (by rw [if_neg (fun h => h.2 (by simpa using h5))]))
                clear h4'
                cases h6 : pairsErr x.f3 != 0
                · replace HE := Aside0.mk (HE.out.trans (by rw [if_neg (by rw [h6]; decide)]))
                  go_wp2_with (go_at_call 81; refine (rPairs_calls A3 c3 x.f3 _ (Kd.C_below HR3.out HBw.below) hs3).mono ?_; rintro e w3 ⟨rfl, hb3⟩; have y7 := (HB2.step hb3).at_)
                  go_roundw
                  case rel => exact ⟨k + 1, x.f2, by omega, rfl, by go_num, HE, HBw.step hb3⟩
                  case measure => simp [intOf]; omega
                · replace HE := Aside0.mk (HE.out.trans (by rw [if_pos h6]))
                  go_wp2_with (go_at_call 81; refine (rPairs_calls A3 c3 x.f3 _ (Kd.C_below HR3.out HBw.below) hs3).mono ?_; rintro e w3 ⟨rfl, hb3⟩; have y7 := (HB2.step hb3).at_)
                  go_ret2
                  exact ⟨ret_two HE.out, (HBw.step hb3).below⟩
              · replace HE := Aside0.mk (HE.out.trans (by rw [if_pos ⟨h4', by simpa using h5⟩]))
                clear h4'
                go_wp2_with (go_at_call 81; refine (rPairs_calls A3 c3 x.f3 _ (Kd.C_below HR3.out HBw.below) hs3).mono ?_; rintro e w3 ⟨rfl, hb3⟩; have y7 := (HB2.step hb3).at_)
                go_ret2
                exact ⟨ret_two HE.out, HBw.below⟩
      · go_wp2
        go_ret2
        exact ⟨ret_two (by rw [HN.out, List.drop_eq_nil_of_le (by omega)]; rfl), HB.below⟩
  · have HE : Aside0 (textsErr l n = (0, 15)) := ⟨by rw [textsErr, if_neg h8, if_pos h9]⟩
    go_enter Try.func41, Try.ntmps41
    go_wp2
    go_ret2
    exact ⟨ret_two HE.out, below_alloc (Below.refl _ _) _⟩
end Go.Proofs.Ytkdgholmfnidkaa
