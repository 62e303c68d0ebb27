/- Control bytes and control units: the same strings have them. Plain laws, no program. -/
import Derived.Test.YtkdgholmfnidkaaC
namespace Go.Proofs.Ytkdgholmfnidkaa
open Go.RowKit Go.Proofs.YtkdgholmfnidkaaW.PrintWords Go.Proofs.YtkdgholmfnidkaaW.PrintLast Go.Proofs.YtkdgholmfnidkaaW.PrintMore

theorem decode_shape (s : ByteArray) (pos : Nat) (h : pos < s.size) : pos + (Utf8.decode s pos).2 ≤ s.size ∧ ∀ j, 1 ≤ j → j < (Utf8.decode s pos).2 → ∀ hj : pos + j < s.size, 128 ≤ (s[pos + j]'hj).toNat := by
  have hg : ∀ k, (hk : pos + k < s.size) → (s.get! (pos + k)) = s[pos + k]'hk := fun k hk => by
    simp [ByteArray.get!, ByteArray.getElem_eq_getElem_data, hk]
  unfold Utf8.decode
  dsimp only
  have c : ∀ k, (decide (pos + k < s.size) && (s.get! (pos + k)).toNat / 64 == 2) = true → pos + k < s.size ∧ ∀ hk : pos + k < s.size, 128 ≤ (s[pos + k]'hk).toNat := by
    intro k hk
    simp only [Bool.and_eq_true, decide_eq_true_eq, beq_iff_eq] at hk
    refine ⟨hk.1, fun h' => ?_⟩
    rw [← hg k h']
    omega
  split
  · exact ⟨by omega, fun j h1 h2 => by omega⟩
  split
  · rename_i hq
    simp only [Bool.and_eq_true] at hq
    have c1 := c 1 (by simpa using hq.2)
    split
    · exact ⟨by omega, fun j h1 h2 hj => by
        have e : j = 1 := by omega
        subst e
        exact c1.2 hj⟩
    · exact ⟨by omega, fun j h1 h2 => by omega⟩
  split
  · rename_i hq
    simp only [Bool.and_eq_true] at hq
    have c1 := c 1 (by simpa using hq.1.2)
    have c2 := c 2 (by simpa using hq.2)
    split
    · refine ⟨by omega, fun j h1 h2 hj => ?_⟩
      rcases (by omega : j = 1 ∨ j = 2) with rfl | rfl
      · exact c1.2 hj
      · exact c2.2 hj
    · exact ⟨by omega, fun j h1 h2 => by omega⟩
  split
  · rename_i hq
    simp only [Bool.and_eq_true] at hq
    have c1 := c 1 (by simpa using hq.1.1.2)
    have c2 := c 2 (by simpa using hq.1.2)
    have c3 := c 3 (by simpa using hq.2)
    split
    · refine ⟨by omega, fun j h1 h2 hj => ?_⟩
      rcases (by omega : j = 1 ∨ j = 2 ∨ j = 3) with rfl | rfl | rfl
      · exact c1.2 hj
      · exact c2.2 hj
      · exact c3.2 hj
    · exact ⟨by omega, fun j h1 h2 => by omega⟩
  · exact ⟨by omega, fun j h1 h2 => by omega⟩
def ctlB (b : Int) : Bool := decide (b < 32) || b == 127
theorem high_drop (s : ByteArray) : ∀ (m pos : Nat), (pos + m ≤ s.size) → (∀ j, j < m → ∀ hj : pos + j < s.size, 128 ≤ (s[pos + j]'hj).toNat) → ((bytesOf s).drop pos).any ctlB = ((bytesOf s).drop (pos + m)).any ctlB
  | 0, _, _, _ => rfl
  | m + 1, pos, h, hh => by
    have hp : pos < s.size := by omega
    rw [drop_bytes s pos hp, List.any_cons]
    have h0 := hh 0 (by omega) hp
    have : ctlB ((s[pos]'hp).toNat : Int) = false := by
      have h0' : 128 ≤ (s[pos]'hp).toNat := h0
      simp only [ctlB, Bool.or_eq_false_iff, decide_eq_false_iff_not, beq_eq_false_iff_ne]
      omega
    rw [this, Bool.false_or, high_drop s m (pos + 1) (by omega) (fun j hj hk => by
      have := hh (j + 1) (by omega) (by omega)
      simpa [Nat.add_assoc, Nat.add_comm 1 j] using this)]
    rw [show pos + 1 + m = pos + (m + 1) by omega]
theorem ctl_same (s : ByteArray) : ∀ (f pos : Nat), s.size ≤ f + pos → ((bytesOf s).drop pos).any ctlB = (unitsGo s f pos).any ctlU
  | 0, pos, h => by rw [List.drop_eq_nil_of_le (by rw [bytesOf_length]; omega)]; rfl
  | f + 1, pos, h => by
    rw [unitsGo]
    by_cases hp : pos < s.size
    · rw [if_pos hp, List.any_cons]
      obtain ⟨h1, h2⟩ := decode_shape s pos hp
      have h3 := decode_one s pos hp
      rw [drop_bytes s pos hp, List.any_cons]
      have e1 := high_drop s ((Utf8.decode s pos).2 - 1) (pos + 1) (by omega) (fun j hj hk => by
        have := h2 (j + 1) (by omega) (by omega) (by omega)
        simpa [Nat.add_assoc, Nat.add_comm 1 j] using this)
      rw [e1, show pos + 1 + ((Utf8.decode s pos).2 - 1) = pos + (Utf8.decode s pos).2 by omega, ctl_same s f _ (by omega)]
      congr 1
      rw [Bool.eq_iff_iff]
      by_cases ha : (s[pos]'hp).toNat < 128
      · rw [decode_ascii s pos hp ha]
        simp only [ctlB, ctlU, Bool.or_eq_true, decide_eq_true_eq, beq_iff_eq]
        omega
      · have hi := (decode_high s pos hp (by omega)).1
        simp only [ctlB, ctlU, Bool.or_eq_true, decide_eq_true_eq, beq_iff_eq]
        omega
    · rw [if_neg hp, List.drop_eq_nil_of_le (by rw [bytesOf_length]; omega)]; rfl
end Go.Proofs.Ytkdgholmfnidkaa
