/- The reference's small checks: names, heads without content. -/
import Derived.Test.YtkdgholmfnidkaaH
namespace Go.Proofs.Ytkdgholmfnidkaa
open Go.RowKit Go.Proofs.YtkdgholmfnidkaaW.PrintWords Go.Proofs.YtkdgholmfnidkaaW.PrintLast Go.Proofs.YtkdgholmfnidkaaW.PrintMore

set_option maxHeartbeats 1000000 in
theorem rBare_calls (A A' : Option Addr) (c c' : Nat) (hs : List Int) (rs : List ByteArray) (w : World) (hr : Kd.C (Kd.int .i64) w A hs.length hs) (hr' : Kd.C Kd.string w A' rs.length rs) (hl : hs.length ≤ rs.length) :
    Calls Try.prog 58 #[.slice A hs.length c, .slice A' rs.length c'] w fun x w' => x = .returned (.bool (noH hs rs)) ∧ w = w' := by
  have hm := Kd.C_max hr
  have hm' := Kd.C_max hr'
  have HR := Aside0.mk hr
  have HR' := Aside0.mk hr'
  clear hr hr'
  go_enter Try.func58, Try.ntmps58
  go_wp2
  go_loop [8] (fun i => ∃ k : Nat, k ≤ hs.length ∧ i = .int .i64 k ∧ Aside0 (noH hs rs = noH (hs.drop k) (rs.drop k))) (fun i => hs.length - (intOf i).toNat)
  case atStart => exact ⟨0, Nat.zero_le _, rfl, ⟨rfl⟩⟩
  case round =>
    obtain ⟨k, hk, rfl, HN⟩ := hrel
    by_cases hlt : k < hs.length
    · obtain ⟨ad, x, rfl, hd, -, h0⟩ := elI HR ⟨Below.refl _ _⟩ k hlt
      obtain ⟨ad', y, rfl, hd', -, h0'⟩ := elS HR' ⟨Below.refl _ _⟩ k (by omega)
      have hlt' : k < rs.length := by omega
      go_wp2
      all_goals first
        | (go_ret
           exact ⟨ret_bool (by rw [HN.out, hd.out, hd'.out]; simp_all [noH]), rfl⟩)
        | (go_round
           case rel => exact ⟨k + 1, by omega, by go_num, ⟨by rw [HN.out, hd.out, hd'.out]; simp_all [noH]⟩⟩
           case measure => simp [intOf]; omega)
    · go_wp2
      go_ret
      exact ⟨ret_bool (by rw [HN.out, List.drop_eq_nil_of_le (by omega)]; rfl), rfl⟩
set_option maxHeartbeats 1000000 in
theorem rValidName_calls (s : ByteArray) (w : World) (hs : s.size ≤ 9223372036854775807) : Calls Try.prog 79 #[.string s] w fun e w' => e = .returned (.bool (validName s)) ∧ w = w' := by
  by_cases h0 : s.size < 1
  · go_enter Try.func79, Try.ntmps79
    go_wp2
    go_ret
    exact ⟨ret_bool (validName_none h0).symm, rfl⟩
  by_cases h1 : 32 < s.size
  · go_enter Try.func79, Try.ntmps79
    go_wp2
    go_ret
    exact ⟨ret_bool (validName_long h1).symm, rfl⟩
  have hp : 0 < s.size := by omega
  cases hb : isB (s[0].toNat : Int)
  · go_enter Try.func79, Try.ntmps79
    go_wp2_with (go_at_call 90; refine (First_calls _ _).mono ?_; rintro e w' ⟨rfl, rfl⟩)
    go_ret
    exact ⟨ret_bool (validName_head hp hb).symm, rfl⟩
  · have HV := Aside0.mk (validName_tail hp (by omega) hb)
    go_enter Try.func79, Try.ntmps79
    go_wp2_with (go_at_call 90; refine (First_calls _ _).mono ?_; rintro e w' ⟨rfl, rfl⟩)
    go_loop [3] (fun i => ∃ k : Nat, 1 ≤ k ∧ k ≤ s.size ∧ i = .int .i64 k ∧ Aside0 (validName s = ((bytesOf s).drop k).all isN)) (fun i => s.size - (intOf i).toNat)
    case atStart => exact ⟨1, Nat.le_refl _, by omega, rfl, HV⟩
    case round =>
      obtain ⟨k, hk1, hk, rfl, HN⟩ := hrel
      by_cases hlt : k < s.size
      · have hd := Aside0.mk (drop_bytes s k hlt)
        cases hc : isN (s[k].toNat : Int)
        · go_wp2_with (go_at_call 91; refine (Next_calls _ _).mono ?_; rintro e w' ⟨rfl, rfl⟩)
          go_ret
          exact ⟨ret_bool (by rw [HN.out, hd.out]; simp [hc]), rfl⟩
        · go_wp2_with (go_at_call 91; refine (Next_calls _ _).mono ?_; rintro e w' ⟨rfl, rfl⟩)
          go_round
          case rel => exact ⟨k + 1, by omega, by omega, by go_num, ⟨by rw [HN.out, hd.out]; simp [hc]⟩⟩
          case measure => simp [intOf]; omega
      · go_wp2
        go_ret
        exact ⟨ret_bool (by rw [HN.out, List.drop_eq_nil_of_le (by rw [bytesOf_length]; omega)]; rfl), rfl⟩
set_option maxHeartbeats 2000000 in
set_option maxRecDepth 100000 in
theorem rAttributes_calls (A : Option Addr) (c : Nat) (l : List S62) (w : World) (hr : Kd.C k62 w A l.length l) (hlc : l.length ≤ c) (hok : ∀ a ∈ l, a.f0.size ≤ 140737488351232) :
    Calls Try.prog 39 #[.slice A l.length c] w fun e w' => e = .returned (.tuple #[.int .i64 (attrsErr l).1, .int .i64 (attrsErr l).2]) ∧ Below w.heap.size w w' := by
  have hu30 := Try.underlying30
  have hu62 := Try.underlying62
  have hm := Kd.C_max hr
  have HR := Aside0.mk hr
  have HK := Aside0.mk hok
  clear hr hok
  by_cases h0 : l.length = 0
  · have h0' : ((l.length : Int) == 0) = true := by simp [h0]
    have HE : Aside0 (attrsErr l = (0, 15)) := ⟨by rw [attrsErr, if_pos h0]⟩
    clear h0
    go_enter Try.func39, Try.ntmps39
    go_wp2
    go_ret2
    exact ⟨ret_two HE.out, Below.refl _ _⟩
  have h0' : ((l.length : Int) == 0) = false := beq_eq_false_iff_ne.2 (by omega)
  by_cases h8 : 8 < l.length
  · have HE : Aside0 (attrsErr l = (0, 2)) := ⟨by rw [attrsErr, if_neg h0, if_pos h8]⟩
    go_enter Try.func39, Try.ntmps39
    go_wp2
    go_ret2
    exact ⟨ret_two HE.out, Below.refl _ _⟩
  have H0 : Aside0 (attrsErr l = attrsGo l (l.drop 0) 0) := ⟨by rw [attrsErr, if_neg h0, if_neg h8]; rfl⟩
  go_enter Try.func39, Try.ntmps39
  go_wp2
  go_loopw [16] (fun i wr => ∃ k : Nat, k ≤ l.length ∧ i = .int .i64 k ∧ Aside0 (attrsErr l = attrsGo l (l.drop k) k) ∧ Aside0 (Below w.heap.size w wr)) (fun i _ => l.length - (intOf i).toNat)
  case atStart => exact ⟨0, Nat.zero_le _, rfl, H0, bel_refl _⟩
  case round =>
    clear H0
    obtain ⟨k, hk, rfl, HN, HB⟩ := hrel
    by_cases hlt : k < l.length
    · obtain ⟨ad, x, rfl, hd, hx, g0, g1⟩ := el62 HR HB k hlt
      have hs0 : x.f0.size ≤ 9223372036854775807 := by have := HK.out x (List.mem_of_getElem? hx.out); omega
      have HE := Aside0.mk (HN.out.trans (by rw [hd.out]))
      clear HN
      cases hv : validName x.f0
      · go_wp2_with (go_at_call 79; refine (rValidName_calls _ _ hs0).mono ?_; rintro e w1 ⟨rfl, rfl⟩)
        go_ret2
        exact ⟨ret_two (by rw [HE.out, attrsGo, if_pos hv]), below_alloc HB.out _⟩
      · replace HE := Aside0.mk (HE.out.trans (by rw [attrsGo, if_neg (by rw [hv]; decide)]))
        go_wp2_with (go_at_call 79; refine (rValidName_calls _ _ hs0).mono ?_; rintro e w1 ⟨rfl, rfl⟩)
        go_loopw [30] (fun i wr2 => ∃ j : Nat, j ≤ k ∧ i = .int .i64 j ∧ Aside0 (((l.take k).any fun b => b.f0.toList == x.f0.toList) = ((l.drop j).take (k - j)).any fun b => b.f0.toList == x.f0.toList) ∧ Bx wr #[.string x.f0, .bool x.f1] 62 wr2) (fun i _ => k - (intOf i).toNat)
        case atStart => exact ⟨0, Nat.zero_le _, rfl, ⟨by simp⟩, Bx.refl _ _ _⟩
        case round =>
          obtain ⟨j, hj, rfl, HN, HB2⟩ := hrel
          have HBw := bel_step HB HB2.below
          have b1 := (HB2.at_ 0).trans rfl
          by_cases hjk : j < k
          · obtain ⟨ad', y, hA, hdy, -, q0, q1⟩ := el62 HR HBw j (by omega)
            obtain rfl := Option.some.inj hA
            have HY := Aside0.mk (HN.out.trans (by rw [hdy.out, show k - j = (k - (j + 1)) + 1 by omega, List.take_succ_cons, List.any_cons] : _ = ((y.f0.toList == x.f0.toList) || ((l.drop (j + 1)).take (k - (j + 1))).any fun b => b.f0.toList == x.f0.toList)))
            have hbs2 := HB2.size
            clear HN
            have hsym : (x.f0.toList == y.f0.toList) = (y.f0.toList == x.f0.toList) := by rw [Bool.eq_iff_iff, beq_iff_eq, beq_iff_eq]; exact eq_comm
            have HSYM := Aside0.mk hsym
            clear hsym
            cases he : y.f0.toList == x.f0.toList
            · have he2 := HSYM.out.trans he
              go_wp2
              go_roundw
              case rel => exact ⟨j + 1, by omega, by go_num, ⟨by rw [HY.out, he]; rfl⟩, HB2.alloc _⟩
              case measure => simp [intOf]; omega
            · have he2 := HSYM.out.trans he
              go_wp2
              go_ret2
              exact ⟨ret_two (by rw [HE.out, if_pos (by rw [HY.out, he]; rfl)]), below_alloc HBw.out _⟩
          · go_wp2
            go_roundw
            case rel => exact ⟨k + 1, by omega, by go_num, ⟨by rw [HE.out, if_neg (by rw [HN.out, show k - j = 0 by omega]; simp)]⟩, HBw⟩
            case measure => simp [intOf]; omega
    · go_wp2
      go_ret2
      exact ⟨ret_two (by rw [HN.out, List.drop_eq_nil_of_le (by omega)]; rfl), HB.out⟩
end Go.Proofs.Ytkdgholmfnidkaa
