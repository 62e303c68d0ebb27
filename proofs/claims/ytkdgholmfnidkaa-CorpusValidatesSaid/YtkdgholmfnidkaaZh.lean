/- Plain laws: texts that lie one behind the other; what the checks of regions and nodes keep. -/
import Derived.Test.YtkdgholmfnidkaaL
import Derived.Test.YtkdgholmfnidkaaZg
namespace Go.Proofs.Ytkdgholmfnidkaa
open Go.RowKit Go.Proofs.YtkdgholmfnidkaaW.PrintWords Go.Proofs.YtkdgholmfnidkaaW.PrintLast Go.Proofs.YtkdgholmfnidkaaW.PrintMore

structure Sep (ts : List S64) : Prop where
  pos : ∀ t ∈ ts, 0 ≤ t.f1 ∧ t.f1 < t.f2
  dis : ts.Pairwise fun a b => a.f2 ≤ b.f1
theorem texts_sepGo {all : List S64} {n : Int} : ∀ (l : List S64) (e : Int) (k : Nat), (textsGo all n e l k).2 = 0 → (∀ t ∈ l, e ≤ t.f1) ∧ l.Pairwise fun a b => a.f2 ≤ b.f1
  | [], _, _, _ => ⟨fun _ h => absurd h List.not_mem_nil, List.Pairwise.nil⟩
  | t :: l, e, k, h => by
    unfold textsGo at h
    split at h
    · simp at h
    split at h
    · simp at h
    split at h
    · simp at h
    split at h
    · simp at h
    split at h
    · rename_i hp; simp at h; simp [h] at hp
    rename_i h5 h6 h7
    have ih := texts_sepGo l t.f2 (k + 1) h
    refine ⟨fun u hu => ?_, List.Pairwise.cons ih.1 ih.2⟩
    rcases List.mem_cons.1 hu with rfl | hu
    · omega
    · have := ih.1 u hu; omega
theorem texts_sep {ts : List S64} {n : Nat} (h : (textsErr ts n).2 = 0) : Sep ts := by
  refine ⟨fun t ht => ⟨(texts_in h t ht).1, (texts_in h t ht).2.1⟩, ?_⟩
  unfold textsErr at h
  split at h
  · simp at h
  split at h
  · simp at h
  exact (texts_sepGo ts 0 0 h).2
theorem inT_iff {p : Int} {t : S64} : inT p t = true ↔ t.f1 ≤ p ∧ p < t.f2 := by simp [inT]
theorem find_sep {p : Int} : ∀ {ts : List S64}, (ts.Pairwise fun a b => a.f2 ≤ b.f1) → ∀ t ∈ ts, inT p t = true → ts.find? (inT p) = some t
  | a :: l, h, t, ht, hi => by
    have hc := List.pairwise_cons.1 h
    rw [List.find?_cons]
    rcases List.mem_cons.1 ht with rfl | ht
    · rw [hi]
    · cases ha : inT p a
      · exact find_sep hc.2 t ht hi
      · have h1 := inT_iff.1 ha
        have h2 := inT_iff.1 hi
        have := hc.1 t ht
        omega
theorem within_eq {ts : List S64} (h : Sep ts) (b e : Int) : (ts.any fun t => decide (t.f1 ≤ b ∧ b < e ∧ e ≤ t.f2)) = inTextB ts b e := by
  rw [Bool.eq_iff_iff, List.any_eq_true]
  unfold inTextB
  constructor
  · rintro ⟨t, ht, hd⟩
    have hd := of_decide_eq_true hd
    rw [find_sep h.dis t ht (inT_iff.2 (by omega))]
    simp only [Bool.and_eq_true, decide_eq_true_eq]
    omega
  · intro hd
    cases hf : ts.find? (inT b) with
    | none => rw [hf] at hd; simp at hd
    | some t =>
      rw [hf] at hd
      simp only [Bool.and_eq_true, decide_eq_true_eq] at hd
      have hi := inT_iff.1 (List.find?_some hf)
      exact ⟨t, List.mem_of_find?_eq_some hf, decide_eq_true (by omega)⟩
theorem inText_pos {ts : List S64} (h : Sep ts) {b e : Int} (hi : inTextB ts b e = true) : 0 ≤ b ∧ b < e := by
  unfold inTextB at hi
  cases hf : ts.find? (inT b) with
  | none => rw [hf] at hi; simp at hi
  | some t =>
    rw [hf] at hi
    simp only [Bool.and_eq_true, decide_eq_true_eq] at hi
    have h1 := inT_iff.1 (List.find?_some hf)
    have h2 := h.pos t (List.mem_of_find?_eq_some hf)
    omega
theorem textAt_same {ts : List S64} (hs : Sep ts) {h k : Int} {j : Nat} {x : S64} (hk : textAt ts k = j) (hx : ts[j]? = some x) : textAt ts h = textAt ts k ↔ x.f1 ≤ h ∧ h < x.f2 := by
  have hxm : x ∈ ts := List.mem_of_getElem? hx
  obtain ⟨hjl, hjx⟩ := List.getElem?_eq_some_iff.1 hx
  rcases textAt_cases ts h with ⟨h1, h2⟩ | ⟨i, y, hi, h1, h2, h3⟩
  · rw [h1, hk]
    constructor
    · intro e; omega
    · intro e
      rw [List.find?_eq_none] at h2
      exact absurd (inT_iff.2 e) (h2 x hxm)
  · rw [h1, hk]
    constructor
    · intro e
      have : i = j := by omega
      subst this
      obtain rfl := Option.some.inj (hx.symm.trans h2)
      exact inT_iff.1 (List.find?_some h3)
    · intro e
      have h4 := find_sep hs.dis x hxm (inT_iff.2 e)
      obtain rfl := Option.some.inj (h4.symm.trans h3)
      obtain ⟨hil, hix⟩ := List.getElem?_eq_some_iff.1 h2
      have hp := List.pairwise_iff_getElem.1 hs.dis
      have hq := hs.pos x hxm
      rcases Nat.lt_trichotomy i j with hlt | rfl | hlt
      · have := hp i j hil hjl hlt
        rw [hix, hjx] at this; omega
      · rfl
      · have := hp j i hjl hil hlt
        rw [hix, hjx] at this; omega
theorem cmpR_f1 {p x : S39} (h : ¬ 0 < cmpR p x) : p.f1 ≤ x.f1 := by
  by_cases hlt : x.f1 < p.f1
  · exfalso
    apply h
    have : cmpI p.f1 x.f1 = 1 := by rw [cmpI, if_neg (by omega), if_pos hlt]
    rw [cmpR, this, if_pos (by decide)]
    decide
  · omega
structure Srt (l : List S39) (k : Nat) (op : List S39) : Prop where
  mk :: (out : ∃ b : Int, op = (l.take k).filter (fun o => decide (b < o.f2)) ∧ (∀ y ∈ l.take k, y.f1 ≤ b) ∧ ∀ p, prevR l k = some p → p.f1 = b)
theorem Srt.zero (l : List S39) : Srt l 0 [] := ⟨⟨0, rfl, fun y h => by simp at h, fun p h => by simp [prevR] at h⟩⟩
theorem Srt.at_ {l op : List S39} {k : Nat} (h : Srt l k op) {x : S39} (hp : prevGt (prevR l k) x = false) (hk : k ≤ l.length) :
    (op.filter fun o => decide (x.f1 < o.f2)) = (l.take k).filter (fun o => decide (x.f1 < o.f2)) ∧ ∀ y ∈ l.take k, y.f1 ≤ x.f1 := by
  obtain ⟨b, rfl, hb, hpb⟩ := h.out
  by_cases hk0 : k = 0
  · subst hk0
    exact ⟨rfl, fun y h => by simp at h⟩
  · have hlt : k - 1 < l.length := by omega
    have hpr : prevR l k = some l[k - 1] := by rw [prevR, if_neg hk0, List.getElem?_eq_getElem hlt]
    have he := hpb _ hpr
    rw [hpr, prevGt] at hp
    have hle := cmpR_f1 (of_decide_eq_false hp)
    have hbx : b ≤ x.f1 := by omega
    refine ⟨?_, fun y hy => Int.le_trans (hb y hy) hbx⟩
    rw [List.filter_filter]
    apply List.filter_congr
    intro o _
    rw [Bool.eq_iff_iff]
    simp only [Bool.and_eq_true, decide_eq_true_eq]
    omega
theorem take_snoc {α : Type} {l : List α} {k : Nat} {x : α} (hx : l[k]? = some x) : l.take (k + 1) = l.take k ++ [x] := by
  rw [List.take_add_one, hx]; rfl
theorem Srt.next {l : List S39} {k : Nat} {x : S39} (hx : l[k]? = some x) (hlt : x.f1 < x.f2) (hy : ∀ y ∈ l.take k, y.f1 ≤ x.f1) :
    Srt l (k + 1) ((l.take k).filter (fun o => decide (x.f1 < o.f2)) ++ [x]) := by
  refine ⟨⟨x.f1, ?_, ?_, ?_⟩⟩
  · rw [take_snoc hx, List.filter_append, List.filter_cons_of_pos (by simpa using hlt)]; rfl
  · intro y hm
    rw [take_snoc hx] at hm
    rcases List.mem_append.1 hm with h | h
    · exact hy y h
    · rw [List.mem_singleton.1 h]; exact Int.le_refl _
  · intro p hp
    rw [prevR, if_neg (by omega), Nat.add_sub_cancel, hx] at hp
    rw [← Option.some.inj hp]
/-- The end of the last of the first nodes with a parent. -/
def lastE (l : List S74) (p : Int) : Nat → Int
  | 0 => 0
  | s + 1 => if par l (s : Int) = p then (rd_T74 l (s : Int)).f2 else lastE l p s
structure NdI (l : List S74) (es ds dr : List Int) (k : Nat) : Prop where
  es_ : ∀ p : Int, -1 ≤ p → p < l.length → rd es (p + 1) = lastE l p k
  ds_ : ∀ j : Nat, j < k → rd dr (j : Int) = rd ds ((j : Int) + 1)
  d0 : rd ds 0 = 0
  dz : ∀ j : Nat, k ≤ j → rd dr (j : Int) = 0
  le : es.length = l.length + 1
  ld : ds.length = l.length + 1
  lr : dr.length = l.length
theorem NdI.zero (l : List S74) : NdI l (List.replicate (l.length + 1) 0) (List.replicate (l.length + 1) 0) (List.replicate l.length 0) 0 :=
  ⟨fun p _ _ => rd_rep _ _, fun j h => absurd h (Nat.not_lt_zero j), rd_rep _ _, fun j _ => rd_rep _ _, by simp, by simp, by simp⟩
theorem NdI.next {l : List S74} {es ds dr : List Int} {k : Nat} (h : NdI l es ds dr k) {p v e : Int} (hk : k < l.length) (hp : par l (k : Int) = p) (hp0 : -1 ≤ p) (hpk : p < k) (he : e = (rd_T74 l (k : Int)).f2) :
    NdI l (es.set (p + 1).toNat e) (ds.set (k + 1) v) (dr.set k v) (k + 1) := by
  have hk1 : (k + 1) = ((k : Int) + 1).toNat := by omega
  have hk0 : k = (k : Int).toNat := by omega
  refine ⟨?_, ?_, ?_, ?_, by rw [List.length_set]; exact h.le, by rw [List.length_set]; exact h.ld, by rw [List.length_set]; exact h.lr⟩
  · intro q hq0 hq1
    rw [rd_set (by omega) (by rw [h.le]; omega) (by omega), lastE, hp, ← he]
    by_cases hqp : q = p
    · subst hqp; rw [if_pos rfl, if_pos rfl]
    · rw [if_neg (by omega), if_neg (fun z => hqp z.symm)]
      exact h.es_ q hq0 hq1
  · intro j hj
    have e1 : rd (dr.set k v) (j : Int) = if (j : Int) = (k : Int) then v else rd dr (j : Int) := by
      have := rd_set (xs := dr) (a := (k : Int)) (x := (j : Int)) (v := v) (by omega) (by rw [h.lr]; omega) (by omega)
      rwa [Int.toNat_natCast] at this
    have e2 : rd (ds.set (k + 1) v) ((j : Int) + 1) = if (j : Int) + 1 = (k : Int) + 1 then v else rd ds ((j : Int) + 1) := by
      have := rd_set (xs := ds) (a := (k : Int) + 1) (x := (j : Int) + 1) (v := v) (by omega) (by rw [h.ld]; omega) (by omega)
      rwa [← hk1] at this
    rw [e1, e2]
    by_cases hjk : j = k
    · rw [if_pos (by omega), if_pos (by omega)]
    · rw [if_neg (by omega), if_neg (by omega)]
      exact h.ds_ j (by omega)
  · have := rd_set (xs := ds) (a := (k : Int) + 1) (x := 0) (v := v) (by omega) (by rw [h.ld]; omega) (by omega)
    rw [← hk1] at this
    rw [this, if_neg (by omega)]
    exact h.d0
  · intro j hj
    have := rd_set (xs := dr) (a := (k : Int)) (x := (j : Int)) (v := v) (by omega) (by rw [h.lr]; omega) (by omega)
    rw [Int.toNat_natCast] at this
    rw [this, if_neg (by omega)]
    exact h.dz j (by omega)
/-- What stands in the reference's list for the parent. -/
theorem NdI.par_ {l : List S74} {es ds dr : List Int} {k : Nat} (h : NdI l es ds dr k) {p : Int} (hp0 : 0 ≤ p) (hpk : p < k) : rd dr p = rd ds (p + 1) := by
  have := h.ds_ p.toNat (by omega)
  rwa [show ((p.toNat : Nat) : Int) = p by omega] at this
theorem ancGo_end {l : List S74} {p v : Int} (h : ¬ (0 ≤ v ∧ v ≠ p)) : ∀ n, ancGo l p n v = v
  | 0 => rfl
  | n + 1 => by rw [ancGo, if_neg h]
end Go.Proofs.Ytkdgholmfnidkaa
