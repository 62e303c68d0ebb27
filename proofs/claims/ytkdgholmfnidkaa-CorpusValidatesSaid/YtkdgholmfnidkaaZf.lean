/- The reference's Valid and ValidValue. -/
import Derived.Test.YtkdgholmfnidkaaZe
namespace Go.Proofs.Ytkdgholmfnidkaa
open Go.RowKit Go.Proofs.YtkdgholmfnidkaaW.PrintWords Go.Proofs.YtkdgholmfnidkaaW.PrintLast Go.Proofs.YtkdgholmfnidkaaW.PrintMore

theorem uv1_at {us : List Un} {k : Nat} {x : Uv} (h : (us.map uv1)[k]? = some x) : us.drop k = (x.1, x.2.1, x.2.2.1) :: us.drop (k + 1) ∧ x.2.2.2 = okU (x.1, x.2.1, x.2.2.1) := by
  rw [List.getElem?_map] at h
  obtain ⟨u, hu, rfl⟩ := Option.map_eq_some_iff.1 h
  obtain ⟨hk, hu⟩ := List.getElem?_eq_some_iff.1 hu
  exact ⟨by rw [List.drop_eq_getElem_cons hk, hu]; rfl, rfl⟩
theorem Rv.below {W W1 : World} {base n c : Nat} {A : Option Addr} {xs : List Uv} (h : Rv W base A n c xs) (hb : Below W.heap.size W W1) : Rv W1 base A n c xs := by
  obtain ⟨h0, inner, ⟨hl, ho⟩, hr⟩ := h.out
  refine ⟨⟨h0, inner, ⟨hl, ?_⟩, hr⟩⟩
  rcases ho with ho | ⟨g, cap, cur, hv, hb', hh, hnc, hcm, hcs, ht⟩
  · exact .inl ho
  · exact .inr ⟨g, cap, cur, hv, hb', blk_below hh hb, hnc, hcm, hcs, ht⟩
set_option maxHeartbeats 2000000 in
set_option maxRecDepth 100000 in
theorem rValid_calls (s : ByteArray) (w : World) (hs : s.size ≤ 120) : Calls Try.prog 95 #[.string s] w fun e w' => e = .returned (.bool (utfOK s)) ∧ Below w.heap.size w w' := by
  have hu110 := Try.underlying110
  have hu113 := Try.underlying113
  have H0 : Aside0 (utfOK s = ((unitsOf s).drop 0).all okU) := ⟨rfl⟩
  go_enter Try.func95, Try.ntmps95
  go_wp2_with (go_at_call 98; refine (rUnits_calls s _ hs).mono ?_; rintro e w1 ⟨A, n, c, rfl, hr, hb⟩; have HR := Aside0.mk hr; have HB0 := Aside0.mk hb; have hn := hr.len; have hm := Kd.C_max (Kd.R_reads' hr.out).2.2; clear hr hb)
  rw [List.length_map] at hn hm
  subst hn
  go_loopw [8] (fun i wr => ∃ k : Nat, k ≤ (unitsOf s).length ∧ i = .int .i64 k ∧ Aside0 (utfOK s = ((unitsOf s).drop k).all okU) ∧ Aside0 (Below w1.heap.size w1 wr)) (fun i _ => (unitsOf s).length - (intOf i).toNat)
  case atStart => exact ⟨0, Nat.zero_le _, rfl, H0, bel_refl _⟩
  case round =>
    clear H0
    obtain ⟨k, hk, rfl, HN, HB⟩ := hrel
    by_cases hlt : k < (unitsOf s).length
    · obtain ⟨g, x, rfl, hx, hg, hgl, hfz, c0, c1, c2, c3⟩ := (HR.out.below HB.out).el k (by rw [List.length_map]; exact hlt)
      obtain ⟨hd, ho⟩ := uv1_at hx.out
      have HN2 := Aside0.mk (HN.out.trans (by rw [hd, List.all_cons, ← ho]))
      clear hd ho HN hx hfz
      cases hb : x.2.2.2
      · rw [hb] at c3
        go_wp2
        go_ret
        exact ⟨ret_bool (by rw [HN2.out, hb]; rfl), (HB0.out.trans ((below_alloc HB.out _).mono (by have := HB0.out.size; omega)))⟩
      · rw [hb] at c3
        go_wp2
        go_roundw
        case rel => exact ⟨k + 1, by omega, by go_num, ⟨by rw [HN2.out, hb]; rfl⟩, bel_alloc HB _⟩
        case measure => simp [intOf]; omega
    · go_wp2
      go_ret
      exact ⟨ret_bool (by rw [HN.out, List.drop_eq_nil_of_le (by omega)]; rfl), HB0.out.trans (HB.out.mono (by have := HB0.out.size; omega))⟩
set_option maxHeartbeats 2000000 in
set_option maxRecDepth 100000 in
theorem rValidValue_calls (s : ByteArray) (w : World) (_ : s.size ≤ 140737488351232) : Calls Try.prog 93 #[.string s] w fun e w' => e = .returned (.int .i64 (validValue s)) ∧ Below w.heap.size w w' := by
  have hu9 := Try.underlying9
  have hu105 := Try.underlying105
  by_cases hl : 120 < s.size
  · go_enter Try.func93, Try.ntmps93
    go_wp2
    go_ret
    exact ⟨ret_int (by rw [validValue, if_pos hl]), Below.refl _ _⟩
  have hl' : s.size ≤ 120 := by omega
  cases hv : utfOK s
  · go_enter Try.func93, Try.ntmps93
    go_wp2_with (go_at_call 95; refine (rValid_calls _ _ hl').mono ?_; rintro e w1 ⟨rfl, hb⟩)
    go_ret
    exact ⟨ret_int (by rw [validValue, if_neg hl, if_pos hv]), hb⟩
  have kb := fun W => print_bytes (P := Try.prog) 9 105 5 hu9 hu105 Try.underlying5 s W
  have HV : Aside0 (validValue s = if ((bytesOf s).drop 0).any ctlB = true then 14 else 0) := ⟨by rw [validValue, if_neg hl, if_neg (by rw [hv]; decide), ctl_same s s.size 0 (by omega)]; rfl⟩
  go_enter Try.func93, Try.ntmps93
  go_wp2_with (go_at_call 95; refine (rValid_calls _ _ hl').mono ?_; rintro e w1 ⟨rfl, hb⟩)
  have HB := Aside0.mk (below_step hb (bytes_below (Below.refl w1.heap.size w1) (Nat.le_refl _) 5 s))
  clear hb
  go_loopw [14] (fun i wr => ∃ k : Nat, k ≤ s.size ∧ i = .int .i64 k ∧ wr = Lib.bytesWorld w1 5 s ∧ Aside0 (validValue s = if ((bytesOf s).drop k).any ctlB = true then 14 else 0)) (fun i _ => s.size - (intOf i).toNat)
  case atStart => exact ⟨0, Nat.zero_le _, rfl, rfl, HV⟩
  case round =>
    clear HV kb
    obtain ⟨k, hk, rfl, rfl, HN⟩ := hrel
    by_cases hlt : k < s.size
    · have hc : (Lib.bytesWorld w1 5 s).cell? ⟨w1.heap.size, k, none⟩ = some (.int .u8 (s[k].toNat : Int)) := by
        rw [Lib.bytesWorld_cell w1 5 s k hlt]
        have h' : k < s.data.toList.length := by rw [data_length]; exact hlt
        simp [List.getD_eq_getElem?_getD, List.getElem?_eq_getElem h']
        rfl
      generalize hb : (s[k].toNat : Int) = b at hc
      have HE := Aside0.mk (HN.out.trans (by rw [drop_bytes s k hlt, List.any_cons, hb]))
      have hb0 : 0 ≤ b := by omega
      have hb1 : b < 256 := by rw [← hb]; have := s[k].toNat_lt; omega
      clear hb HN
      by_cases h1 : b < 32
      · go_wp2
        go_ret
        exact ⟨ret_int (by rw [HE.out, if_pos (by simp [ctlB, h1])]), HB.out⟩
      · cases h2 : b == 127
        · go_wp2
          go_roundw
          case rel => exact ⟨k + 1, by omega, by go_num, trivial, ⟨by rw [HE.out, show ctlB b = false from by simp only [ctlB, h2]; simp; omega]; rfl⟩⟩
          case measure => simp [intOf]; omega
        · go_wp2
          go_ret
          exact ⟨ret_int (by rw [HE.out, if_pos (by simp [ctlB, h2])]), HB.out⟩
    · go_wp2
      go_ret
      exact ⟨ret_int (by rw [HN.out, List.drop_eq_nil_of_le (by rw [bytesOf_length]; omega)]; rfl), HB.out⟩
end Go.Proofs.Ytkdgholmfnidkaa
