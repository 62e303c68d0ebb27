/- Control bytes and control units: the same strings have them. Plain laws, no program. The reference's units of a string: a row of the call's own, its elements' fields set in place. The reference's Valid and ValidValue. -/
import Derived.Test.YtkdgholmfnidkaaC
namespace Go.Proofs.Ytkdgholmfnidkaa
open Go.RowKit Go.Proofs.YtkdgholmfnidkaaW.PrintWords Go.Proofs.YtkdgholmfnidkaaW.PrintLast Go.Proofs.YtkdgholmfnidkaaW.PrintMore

theorem decode_shape (s : ByteArray) (pos : Nat) (h : pos < s.size) : pos + (Utf8.decode s pos).2 ≤ s.size ∧ ∀ j, 1 ≤ j → j < (Utf8.decode s pos).2 → ∀ hj : pos + j < s.size, 128 ≤ (s[pos + j]'hj).toNat := by
  have hg : ∀ k, (hk : pos + k < s.size) → (s.get! (pos + k)) = s[pos + k]'hk := fun k hk => by
    simp [ByteArray.get!, ByteArray.getElem_eq_getElem_data, hk]
  unfold Utf8.decode
  dsimp only
  have c : ∀ k, (decide (pos + k < s.size) && (s.get! (pos + k)).toNat / 64 == 2) = true → pos + k < s.size ∧ ∀ hk : pos + k < s.size, 128 ≤ (s[pos + k]'hk).toNat := by
    intro k hk
    simp only [Bool.and_eq_true, decide_eq_true_eq, beq_iff_eq] at hk
    refine ⟨hk.1, fun h' => ?_⟩
    rw [← hg k h']
    omega
  split
  · exact ⟨by omega, fun j h1 h2 => by omega⟩
  split
  · rename_i hq
    simp only [Bool.and_eq_true] at hq
    have c1 := c 1 (by simpa using hq.2)
    split
    · exact ⟨by omega, fun j h1 h2 hj => by
        have e : j = 1 := by omega
        subst e
        exact c1.2 hj⟩
    · exact ⟨by omega, fun j h1 h2 => by omega⟩
  split
  · rename_i hq
    simp only [Bool.and_eq_true] at hq
    have c1 := c 1 (by simpa using hq.1.2)
    have c2 := c 2 (by simpa using hq.2)
    split
    · refine ⟨by omega, fun j h1 h2 hj => ?_⟩
      rcases (by omega : j = 1 ∨ j = 2) with rfl | rfl
      · exact c1.2 hj
      · exact c2.2 hj
    · exact ⟨by omega, fun j h1 h2 => by omega⟩
  split
  · rename_i hq
    simp only [Bool.and_eq_true] at hq
    have c1 := c 1 (by simpa using hq.1.1.2)
    have c2 := c 2 (by simpa using hq.1.2)
    have c3 := c 3 (by simpa using hq.2)
    split
    · refine ⟨by omega, fun j h1 h2 hj => ?_⟩
      rcases (by omega : j = 1 ∨ j = 2 ∨ j = 3) with rfl | rfl | rfl
      · exact c1.2 hj
      · exact c2.2 hj
      · exact c3.2 hj
    · exact ⟨by omega, fun j h1 h2 => by omega⟩
  · exact ⟨by omega, fun j h1 h2 => by omega⟩
def ctlB (b : Int) : Bool := decide (b < 32) || b == 127
theorem high_drop (s : ByteArray) : ∀ (m pos : Nat), (pos + m ≤ s.size) → (∀ j, j < m → ∀ hj : pos + j < s.size, 128 ≤ (s[pos + j]'hj).toNat) → ((bytesOf s).drop pos).any ctlB = ((bytesOf s).drop (pos + m)).any ctlB
  | 0, _, _, _ => rfl
  | m + 1, pos, h, hh => by
    have hp : pos < s.size := by omega
    rw [drop_bytes s pos hp, List.any_cons]
    have h0 := hh 0 (by omega) hp
    have : ctlB ((s[pos]'hp).toNat : Int) = false := by
      have h0' : 128 ≤ (s[pos]'hp).toNat := h0
      simp only [ctlB, Bool.or_eq_false_iff, decide_eq_false_iff_not, beq_eq_false_iff_ne]
      omega
    rw [this, Bool.false_or, high_drop s m (pos + 1) (by omega) (fun j hj hk => by
      have := hh (j + 1) (by omega) (by omega)
      simpa [Nat.add_assoc, Nat.add_comm 1 j] using this)]
    rw [show pos + 1 + m = pos + (m + 1) by omega]
theorem ctl_same (s : ByteArray) : ∀ (f pos : Nat), s.size ≤ f + pos → ((bytesOf s).drop pos).any ctlB = (unitsGo s f pos).any ctlU
  | 0, pos, h => by rw [List.drop_eq_nil_of_le (by rw [bytesOf_length]; omega)]; rfl
  | f + 1, pos, h => by
    rw [unitsGo]
    by_cases hp : pos < s.size
    · rw [if_pos hp, List.any_cons]
      obtain ⟨h1, h2⟩ := decode_shape s pos hp
      have h3 := decode_one s pos hp
      rw [drop_bytes s pos hp, List.any_cons]
      have e1 := high_drop s ((Utf8.decode s pos).2 - 1) (pos + 1) (by omega) (fun j hj hk => by
        have := h2 (j + 1) (by omega) (by omega) (by omega)
        simpa [Nat.add_assoc, Nat.add_comm 1 j] using this)
      rw [e1, show pos + 1 + ((Utf8.decode s pos).2 - 1) = pos + (Utf8.decode s pos).2 by omega, ctl_same s f _ (by omega)]
      congr 1
      rw [Bool.eq_iff_iff]
      by_cases ha : (s[pos]'hp).toNat < 128
      · rw [decode_ascii s pos hp ha]
        simp only [ctlB, ctlU, Bool.or_eq_true, decide_eq_true_eq, beq_iff_eq]
        omega
      · have hi := (decode_high s pos hp (by omega)).1
        simp only [ctlB, ctlU, Bool.or_eq_true, decide_eq_true_eq, beq_iff_eq]
        omega
    · rw [if_neg hp, List.drop_eq_nil_of_le (by rw [bytesOf_length]; omega)]; rfl
/-- A unit as it lies: its rune, where it begins, how long it is, whether it is valid. -/
abbrev Uv := Int × Int × Int × Bool
def enV (x : Uv) : List Value := [.int .i32 x.1, .int .i64 x.2.1, .int .i64 x.2.2.1, .bool x.2.2.2]
def kV : Kd Uv where
  sz := 4
  E := []
  K := fun _ x cs => cs = enV x
  M := fun _ _ _ x cs => cs = enV x
  K_len := fun h => by rw [h]; rfl
  K_one := fun h u hu => by
    rw [h] at hu
    simp only [enV, List.mem_cons, List.not_mem_nil, or_false] at hu
    rcases hu with rfl | rfl | rfl | rfl <;> rfl
  K_below := fun _ h => h
  K_of_M := fun h => h
  M_mono := fun _ h => h
  M_bound := fun h => h
  M_move := fun _ h => h
  M_lower := fun _ h => h
def flatV (xs : List Uv) : List Value := xs.flatMap enV
theorem flatV_len : ∀ xs : List Uv, (flatV xs).length = xs.length * 4
  | [] => rfl
  | x :: xs => by
    have := flatV_len xs
    simp only [flatV, List.flatMap_cons, List.length_append, List.length_cons] at this ⊢
    rw [this]
    simp [enV]; omega
theorem reps_flatV : ∀ (xs : List Uv) (W : World) (base : Nat) (ok : Nat → Prop), Reps (kV.M W base ok) 4 xs (flatV xs)
  | [], _, _, _ => Reps.none _ _
  | x :: xs, W, base, ok => Reps.front (p := x) (c := enV x) rfl rfl (reps_flatV xs W base ok) rfl
theorem reps_flatV_eq {W : World} {base : Nat} {ok : Nat → Prop} : ∀ {xs : List Uv} {cs : List Value}, Reps (kV.M W base ok) 4 xs cs → cs = flatV xs
  | [], cs, h => by
    have := h.1
    simp at this
    simpa [flatV] using this
  | x :: xs, cs, h => by
    have h0 : cs.take 4 = enV x := by
      have q := h.2 0 x rfl
      simp only [Nat.zero_mul, List.drop_zero] at q
      exact q
    have h1 : Reps (kV.M W base ok) 4 xs (cs.drop 4) := by
      refine ⟨by rw [List.length_drop, h.1]; simp; omega, fun j p hj => ?_⟩
      have := h.2 (j + 1) p (by simpa using hj)
      rw [List.drop_drop, show 4 + j * 4 = (j + 1) * 4 by omega]
      exact this
    rw [← List.take_append_drop 4 cs, h0, reps_flatV_eq h1]
    rfl
/-- The row of units: none, or one block of cells. -/
structure Rv (W : World) (base : Nat) (A : Option Addr) (n c : Nat) (xs : List Uv) : Prop where
  out : kV.R 113 W base (fun _ => True) (.slice A n c) xs
theorem Rv.open {W : World} {base n c : Nat} {A : Option Addr} {xs : List Uv} (h : Rv W base A n c xs) (hx : 0 < xs.length) : ∃ (g : Nat) (cur : Array Value), A = some ⟨g, 0, none⟩ ∧ W.heap[g]? = some (.cells cur 113 (0, 0)) ∧ n = xs.length ∧ xs.length ≤ c ∧ c ≤ maxLen ∧ cur.size = c * 4 ∧ cur.toList.take (xs.length * 4) = flatV xs ∧ base ≤ g := by
  obtain ⟨_, inner, ⟨hl, ho⟩, hr⟩ := h.out
  have he := reps_flatV_eq hr
  subst he
  rcases ho with ⟨hv, hx0⟩ | ⟨g, cap, cur, hv, hb, hh, hnc, hcm, hcs, ht⟩
  · omega
  injection hv with h1 h2 h3
  subst h1 h3
  exact ⟨g, cur, rfl, hh, h2, hnc, hcm, hcs, ht, hb⟩
theorem Rv.mk_ {W : World} {base g c : Nat} {xs : List Uv} {cur : Array Value} (hh : W.heap[g]? = some (.cells cur 113 (0, 0))) (hnc : xs.length ≤ c) (hcm : c ≤ maxLen) (hcs : cur.size = c * 4) (ht : cur.toList.take (xs.length * 4) = flatV xs) (hb : base ≤ g) :
    Rv W base (some ⟨g, 0, none⟩) xs.length c xs :=
  ⟨⟨fun _ _ => trivial, flatV xs, ⟨by rw [flatV_len]; rfl, .inr ⟨g, c, cur, rfl, hb, hh, hnc, hcm, hcs, ht⟩⟩, reps_flatV xs _ _ _⟩⟩
theorem Rv.move {W W1 : World} {base n c : Nat} {A : Option Addr} {xs : List Uv} (h : Rv W base A n c xs) (hm : ∀ k, base ≤ k → W1.heap[k]? = W.heap[k]?) : Rv W1 base A n c xs := by
  obtain ⟨h0, inner, ⟨hl, ho⟩, hr⟩ := h.out
  refine ⟨⟨h0, inner, ⟨hl, ?_⟩, hr⟩⟩
  rcases ho with ho | ⟨g, cap, cur, hv, hb, hh, hnc, hcm, hcs, ht⟩
  · exact .inl ho
  · exact .inr ⟨g, cap, cur, hv, hb, (hm g hb).trans hh, hnc, hcm, hcs, ht⟩
theorem Rv.len {W : World} {base n c : Nat} {A : Option Addr} {xs : List Uv} (h : Rv W base A n c xs) : n = xs.length := (Kd.R_reads' h.out).1
theorem flatV_at : ∀ (xs : List Uv) (k j : Nat) (x : Uv), xs[k]? = some x → j < 4 → (flatV xs)[k * 4 + j]? = (enV x)[j]?
  | [], k, _, _, h, _ => by simp at h
  | y :: xs, 0, j, x, h, hj => by
    obtain rfl : y = x := by simpa using h
    simp only [flatV, List.flatMap_cons, Nat.zero_mul, Nat.zero_add]
    rw [List.getElem?_append_left (by simpa [enV] using hj)]
  | y :: xs, k + 1, j, x, h, hj => by
    have := flatV_at xs k j x (by simpa using h) hj
    simp only [flatV, List.flatMap_cons] at this ⊢
    rw [List.getElem?_append_right (by simp [enV]; omega), ← this]
    congr 1
    simp [enV]; omega
theorem flatV_set : ∀ (xs : List Uv) (k j : Nat) (x x' : Uv) (u : Value), xs[k]? = some x → j < 4 → enV x' = (enV x).set j u → flatV (xs.set k x') = (flatV xs).set (k * 4 + j) u
  | [], k, _, _, _, _, h, _, _ => by simp at h
  | y :: xs, 0, j, x, x', u, h, hj, he => by
    obtain rfl : y = x := by simpa using h
    simp only [flatV, List.set_cons_zero, List.flatMap_cons, Nat.zero_mul, Nat.zero_add]
    rw [List.set_append_left _ _ (by simpa [enV] using hj), he]
  | y :: xs, k + 1, j, x, x', u, h, hj, he => by
    have := flatV_set xs k j x x' u (by simpa using h) hj he
    simp only [flatV, List.set_cons_succ, List.flatMap_cons] at this ⊢
    rw [this, List.set_append_right _ _ (by simp [enV]; omega)]
    congr 2
    simp [enV]; omega
/-- An element's cells. -/
theorem Rv.el {W : World} {base n c : Nat} {A : Option Addr} {xs : List Uv} (h : Rv W base A n c xs) (k : Nat) (hk : k < xs.length) :
    ∃ (g : Nat) (x : Uv), A = some ⟨g, 0, none⟩ ∧ Aside0 (xs[k]? = some x) ∧ base ≤ g ∧ g < W.heap.size ∧ (∀ i, W.frozen? ⟨g, i, none⟩ = false) ∧ W.cell? ⟨g, k * 4, none⟩ = some (.int .i32 x.1) ∧ W.cell? ⟨g, k * 4 + 1, none⟩ = some (.int .i64 x.2.1) ∧ W.cell? ⟨g, k * 4 + 2, none⟩ = some (.int .i64 x.2.2.1) ∧ W.cell? ⟨g, k * 4 + 3, none⟩ = some (.bool x.2.2.2) := by
  obtain ⟨g, cur, rfl, hh, hn, hnc, hcm, hcs, ht, hb⟩ := h.open (by omega)
  refine ⟨g, xs[k], rfl, ⟨List.getElem?_eq_getElem hk⟩, hb, blk_lt hh, blk_frozen hh, ?_⟩
  have key : ∀ j, j < 4 → W.cell? ⟨g, k * 4 + j, none⟩ = (enV xs[k])[j]? := by
    intro j hj
    rw [blk_cell hh]
    have e1 : cur[k * 4 + j]? = (cur.toList.take (xs.length * 4))[k * 4 + j]? := by
      rw [List.getElem?_take_of_lt (by omega), Array.getElem?_toList]
    rw [e1, ht, flatV_at xs k j xs[k] (List.getElem?_eq_getElem hk) hj]
  exact ⟨key 0 (by decide), key 1 (by decide), key 2 (by decide), key 3 (by decide)⟩
/-- A field of an element set in place. -/
theorem Rv.set {W : World} {base n c g : Nat} {xs : List Uv} (h : Rv W base (some ⟨g, 0, none⟩) n c xs) (k j : Nat) (x x' : Uv) (u : Value) (hx : xs[k]? = some x) (hj : j < 4) (he : enV x' = (enV x).set j u) :
    Rv (W.setCell ⟨g, k * 4 + j, none⟩ u) base (some ⟨g, 0, none⟩) n c (xs.set k x') := by
  have hk : k < xs.length := (List.getElem?_eq_some_iff.1 hx).1
  obtain ⟨g', cur, hA, hh, hn, hnc, hcm, hcs, ht, hb⟩ := h.open (by omega)
  obtain rfl : g = g' := by injection hA with hA; injection hA
  have hr := Rv.mk_ (base := base) (xs := xs.set k x') (c := c) (blk_set hh (k * 4 + j) u) (by rw [List.length_set]; exact hnc) hcm (by rw [Array.size_setIfInBounds]; exact hcs) (by
    rw [List.length_set, flatV_set xs k j x x' u hx hj he, ← ht, Array.toList_setIfInBounds, List.take_set]) hb
  rwa [List.length_set, ← hn] at hr
theorem info113 : (Try.prog.info? 113).map (fun i => (i.zero, i.size, i.bytes)) = some (some (.agg #[.int .i32 0, .int .i64 0, .int .i64 0, .bool false]), 4, 32) := by kernel_rfl
def uv0 (u : Un) : Uv := (u.1, u.2.1, u.2.2, false)
def uv1 (u : Un) : Uv := (u.1, u.2.1, u.2.2, okU u)
/-- What lies before the next unit at pos: nothing, or whole units and one whose length is not set yet. -/
def StU (s : ByteArray) (pos : Nat) (us : List Uv) : Prop :=
  (us = [] ∧ pos = 0) ∨ ∃ (pre : List Un) (r a : Int), 0 ≤ a ∧ a ≤ pos ∧ a < s.size ∧ us = pre.map uv0 ++ [(r, a, 0, false)] ∧ pre ++ ((r, a, ((min pos s.size : Nat) : Int) - a) : Un) :: unitsGo s s.size pos = unitsOf s
theorem next_stepU {w : World} {k pos : Nat} {s : ByteArray} (hk : w.heap[k]? = some (.stringIter s pos)) (h : pos < s.size) :
    ∃ W1, (∀ ty, (Instr.next (.pointer (some ⟨k, 0, none⟩)) true ty).run Try.prog w = .ok (.tuple #[.bool true, .int .i64 pos, .int .i32 (Utf8.decode s pos).1]) W1) ∧ W1.heap[k]? = some (.stringIter s (pos + (Utf8.decode s pos).2)) ∧
      W1.heap.size = w.heap.size ∧ (∀ j, j ≠ k → W1.heap[j]? = w.heap[j]?) ∧ Below k w W1 := next_step w k s pos hk h
def mixU (us : List Un) (k : Nat) : List Uv := (us.take k).map uv1 ++ (us.drop k).map uv0
theorem mixU_len (us : List Un) (k : Nat) : (mixU us k).length = us.length := by
  rw [mixU, List.length_append, List.length_map, List.length_map, ← List.length_append, List.take_append_drop]
theorem mixU_at {us : List Un} {k : Nat} {u : Un} (h : us[k]? = some u) : (mixU us k)[k]? = some (uv0 u) := by
  have hk : k < us.length := (List.getElem?_eq_some_iff.1 h).1
  have hl : ((us.take k).map uv1).length = k := by rw [List.length_map, List.length_take]; omega
  rw [mixU, List.getElem?_append_right (by omega), hl, Nat.sub_self, List.getElem?_map, List.getElem?_drop, Nat.add_zero, h]
  rfl
theorem mixU_set {us : List Un} {k : Nat} {u : Un} (h : us[k]? = some u) : (mixU us k).set k (uv1 u) = mixU us (k + 1) := by
  obtain ⟨hk, hu⟩ := List.getElem?_eq_some_iff.1 h
  have hl : ((us.take k).map uv1).length = k := by rw [List.length_map, List.length_take]; omega
  rw [mixU, mixU, List.set_append_right _ _ (by omega), hl, Nat.sub_self, List.drop_eq_getElem_cons hk, hu, List.take_add_one, h]
  simp
theorem StU.first {s : ByteArray} (h : 0 < s.size) : StU s (0 + (Utf8.decode s 0).2) [(((Utf8.decode s 0).1 : Int), 0, 0, false)] :=
  .inr ⟨[], (Utf8.decode s 0).1, 0, by omega, by omega, by omega, rfl, by
    rw [unitsOf, unitsGo_step s 0 h]
    simp⟩
theorem StU.next {s : ByteArray} {pos : Nat} (h : pos < s.size) {pre : List Un} {r a : Int} (he : pre ++ ((r, a, ((min pos s.size : Nat) : Int) - a) : Un) :: unitsGo s s.size pos = unitsOf s) :
    StU s (pos + (Utf8.decode s pos).2) ((pre ++ [((r, a, (pos : Int) - a) : Un)]).map uv0 ++ [(((Utf8.decode s pos).1 : Int), (pos : Int), 0, false)]) :=
  .inr ⟨pre ++ [(r, a, (pos : Int) - a)], (Utf8.decode s pos).1, pos, by omega, by omega, by omega, rfl, by
    rw [← he, unitsGo_step s pos h, show min pos s.size = pos by omega]
    simp⟩
theorem set_last {us : List Un} {x y : Uv} : (us.map uv0 ++ [x]).set us.length y = us.map uv0 ++ [y] := by
  rw [List.set_append_right _ _ (by simp)]
  simp
theorem last_at {us : List Un} {x : Uv} : (us.map uv0 ++ [x])[us.length]? = some x := by
  rw [List.getElem?_append_right (by simp)]
  simp
set_option maxHeartbeats 2000000 in
set_option maxRecDepth 100000 in
theorem rUnits_calls (s : ByteArray) (w : World) (hs : s.size ≤ 120) : Calls Try.prog 98 #[.string s] w fun e w' => ∃ A n c, e = .returned (.slice A n c) ∧ Rv w' (w.heap.size + 1) A n c ((unitsOf s).map uv1) ∧ Below w.heap.size w w' := by
  have hu110 := Try.underlying110
  have hu113 := Try.underlying113
  have hu9 := Try.underlying9
  go_enter Try.func98, Try.ntmps98
  go_wp2
  go_loopw [3, 4, 5] (fun v _ _ wr => ∃ (pos n c : Nat) (A : Option Addr) (us : List Uv), v = .slice A n c ∧ wr.heap[w.heap.size]? = some (.stringIter s pos) ∧ Aside0 (Rv wr (w.heap.size + 1) A n c us) ∧ n = us.length ∧ us.length ≤ pos ∧ us.length ≤ s.size ∧ Aside0 (Below w.heap.size w wr) ∧ Aside0 (StU s pos us))
    (fun _ _ _ wr => s.size - wr.iterPos w.heap.size)
  case atStart =>
    refine ⟨0, 0, 0, none, [], rfl, World.iter_heap w s 0, ⟨⟨Kd.R_nil _ _ _ _ _⟩⟩, rfl, Nat.zero_le _, Nat.zero_le _, ⟨below_alloc (Below.refl _ _) _⟩, ⟨.inl ⟨rfl, rfl⟩⟩⟩
  case round =>
    obtain ⟨pos, n, c, A, us, rfl, hit, HR, hn, hp, hsz, HB, HS⟩ := hrel
    subst hn
    by_cases hlt : pos < s.size
    · obtain ⟨W1, hnx, hit1, hsz1, hoth1, hbel1⟩ := next_stepU hit hlt
      have hszw := blk_lt hit
      have HIT := Aside0.mk hit1
      have HR1 : Aside0 (Rv W1 (w.heap.size + 1) A us.length c us) := ⟨HR.out.move fun k hk => hoth1 k (by omega)⟩
      have HB1 := Aside0.mk (HB.out.trans hbel1)
      have HI0 := Aside0.mk hit
      have HD := Aside0.mk (decode_one s pos hlt)
      have hW1 : w.heap.size + 1 ≤ W1.heap.size := by omega
      clear hit hoth1 hit1 hbel1 hsz1
      rcases HS.out with ⟨rfl, rfl⟩ | ⟨pre, r, a, ha0, ha1, ha2, rfl, he⟩
      · go_wp2_with (at_builtin; refine Kd.R_append kV (w0 := W1) (W := W1) (w.heap.size + 1) rfl (.tmp 31) (.tmp 35) 110 113 _ 32 rfl Try.underlying110 info113 rfl (by decide) (by decide) (.slice A 0 c) [] (((Utf8.decode s 0).1 : Int), 0, 0, false) (enV (((Utf8.decode s 0).1 : Int), 0, 0, false)) (fun _ => True) (fun _ => False) rfl rfl rfl (fun _ h => h.elim) (fun _ _ => trivial) HR1.out.out (Below.refl _ _) (by omega) (by simp) ?_; intro v7 W7 hR7 hb7 hg7 _; obtain ⟨A7, c7, rfl⟩ := Kd.R_slice hR7)
        go_roundw
        case rel =>
          refine ⟨_, _, c7, A7, _, rfl, ?_, ⟨⟨hR7⟩⟩, rfl, ?_, ?_, ⟨?_⟩, ⟨StU.first hlt⟩⟩
          · exact (hb7.block _ (by omega)).trans HIT.out
          · have := HD.out; simp; omega
          · simp; omega
          · exact HB1.out.trans (hb7.mono (by omega))
        case measure =>
          have e1 : W7.iterPos w.heap.size = 0 + (Utf8.decode s 0).2 := by
            unfold World.iterPos; rw [hb7.block _ (by omega), HIT.out]
          have e2 : wr.iterPos w.heap.size = 0 := by unfold World.iterPos; rw [HI0.out]
          have := HD.out
          rw [e1, e2]; omega
      · have HE := Aside0.mk he
        clear he
        have hlen : (pre.map uv0 ++ [((r, a, 0, false) : Uv)]).length = pre.length + 1 := by simp
        rw [hlen] at hp hsz HR1 ⊢
        obtain ⟨g, x, rfl, hx, hg, hgl, hfz, c0, c1, c2, c3⟩ := HR1.out.el pre.length (by rw [hlen]; omega)
        obtain rfl := Option.some.inj ((last_at (us := pre) (x := (r, a, 0, false))).symm.trans hx.out)
        dsimp only at c0 c1 c2 c3
        have f2 := hfz (pre.length * 4 + 2)
        have g1 : IntKind.i64.wrap (((pre.length + 1 : Nat) : Int) - 1) = (pre.length : Int) := by rw [show ((pre.length + 1 : Nat) : Int) - 1 = (pre.length : Int) by omega]; exact IntWalk.i64_in _ (by omega)
        have HR2 := HR1.out.set pre.length 2 (r, a, 0, false) (r, a, (pos : Int) - a, false) (.int .i64 ((pos : Int) - a)) last_at (by decide) rfl
        rw [set_last] at HR2
        have HR2' := Aside0.mk HR2
        clear HR2
        have hs2 : w.heap.size + 1 ≤ (W1.setCell ⟨g, pre.length * 4 + 2, none⟩ (.int .i64 ((pos : Int) - a))).heap.size := by simpa using hW1
        go_wp2_with (at_builtin; refine Kd.R_append kV (w0 := W1.setCell ⟨g, pre.length * 4 + 2, none⟩ (.int .i64 ((pos : Int) - a))) (W := W1.setCell ⟨g, pre.length * 4 + 2, none⟩ (.int .i64 ((pos : Int) - a))) (w.heap.size + 1) rfl (.tmp 31) (.tmp 35) 110 113 _ 32 rfl Try.underlying110 info113 rfl (by decide) (by decide) (.slice (some ⟨g, 0, none⟩) (pre.length + 1) c) (pre.map uv0 ++ [(r, a, (pos : Int) - a, false)]) (((Utf8.decode s pos).1 : Int), (pos : Int), 0, false) (enV (((Utf8.decode s pos).1 : Int), (pos : Int), 0, false)) (fun _ => True) (fun _ => False) rfl (congrArg (fun n => Value.slice (some ⟨n, 0, none⟩) 1 1) (show W1.heap.size = (W1.setCell ⟨g, pre.length * 4 + 2, none⟩ (.int .i64 ((pos : Int) - a))).heap.size from by simp)) rfl (fun _ h => h.elim) (fun _ _ => trivial) HR2'.out.out (Below.refl _ _) (by omega) (by simp; omega) ?_; intro v7 W7 hR7 hb7 hg7 _; obtain ⟨A7, c7, rfl⟩ := Kd.R_slice hR7)
        go_roundw
        case rel =>
          refine ⟨pos + (Utf8.decode s pos).2, _, c7, A7, _, ?_, ?_, ⟨⟨hR7⟩⟩, rfl, ?_, ?_, ⟨?_⟩, ⟨?_⟩⟩
          · simp
          · exact ((hb7.block _ (by omega)).trans (Below.heap_setCell _ _ _ _ (by simp; omega))).trans HIT.out
          · have := HD.out; simp; omega
          · simp; omega
          · exact (HB1.out.setCell (p := ⟨g, pre.length * 4 + 2, none⟩) (by simp; omega) _).trans (hb7.mono (by omega))
          · have := StU.next hlt HE.out
            simpa [uv0] using this
        case measure =>
          have e1 : W7.iterPos w.heap.size = pos + (Utf8.decode s pos).2 := by
            unfold World.iterPos; rw [hb7.block _ (by omega), Below.heap_setCell _ _ _ _ (by simp; omega), HIT.out]
          have e2 : wr.iterPos w.heap.size = pos := by unfold World.iterPos; rw [HI0.out]
          have := HD.out
          rw [e1, e2]; omega
    · have hnx : ∀ ty, (Instr.next (.pointer (some ⟨w.heap.size, 0, none⟩)) true ty).run Try.prog wr = _ := fun ty => Lib.run_next_end_at wr w.heap.size s pos ty hit hlt
      rcases HS.out with ⟨rfl, rfl⟩ | ⟨pre, r, a, ha0, ha1, ha2, rfl, he⟩
      · have hu0 : unitsOf s = [] := unitsGo_end s _ 0 hlt
        have hz : ([] : List Uv).length = 0 := rfl
        rw [hz] at HR ⊢
        go_wp2
        go_loopw [58] (fun i wr2 => i = .int .i64 0 ∧ wr2 = wr) (fun _ _ => 0)
        case atStart => exact ⟨rfl, rfl⟩
        case round =>
          obtain ⟨rfl, rfl⟩ := hrel
          go_wp2
          go_ret
          exact ⟨_, _, _, rfl, by rw [hu0]; exact HR.out, HB.out⟩
      · have HE : Aside0 (pre ++ [((r, a, (s.size : Int) - a) : Un)] = unitsOf s) := ⟨by rw [← he, unitsGo_end s _ pos hlt, show min pos s.size = s.size by omega]⟩
        clear he
        have hlen : (pre.map uv0 ++ [((r, a, 0, false) : Uv)]).length = pre.length + 1 := by simp
        rw [hlen] at hp hsz HR ⊢
        obtain ⟨g, x, rfl, hx, hg, hgl, hfz, c0, c1, c2, c3⟩ := HR.out.el pre.length (by rw [hlen]; omega)
        obtain rfl := Option.some.inj ((last_at (us := pre) (x := (r, a, 0, false))).symm.trans hx.out)
        dsimp only at c0 c1 c2 c3
        have f2 := hfz (pre.length * 4 + 2)
        have g1 : IntKind.i64.wrap (((pre.length + 1 : Nat) : Int) - 1) = (pre.length : Int) := by rw [show ((pre.length + 1 : Nat) : Int) - 1 = (pre.length : Int) by omega]; exact IntWalk.i64_in _ (by omega)
        have HR2 := HR.out.set pre.length 2 (r, a, 0, false) (r, a, (s.size : Int) - a, false) (.int .i64 ((s.size : Int) - a)) last_at (by decide) rfl
        rw [set_last] at HR2
        have HR2' := Aside0.mk HR2
        clear HR2
        have HB2 : Aside0 (Below w.heap.size w (wr.setCell ⟨g, pre.length * 4 + 2, none⟩ (.int .i64 ((s.size : Int) - a)))) := ⟨HB.out.setCell (p := ⟨g, pre.length * 4 + 2, none⟩) (by simp; omega) _⟩
        have HN := Aside0.mk (show ∀ us, us = unitsOf s → us.length = (unitsOf s).length from fun _ h => by rw [h])
        have hlu : (unitsOf s).length = pre.length + 1 := by rw [← HE.out]; simp
        have HR3 : Aside0 (Rv (wr.setCell ⟨g, pre.length * 4 + 2, none⟩ (.int .i64 ((s.size : Int) - a))) (w.heap.size + 1) (some ⟨g, 0, none⟩) (pre.length + 1) c (mixU (unitsOf s) 0)) := ⟨by
          have := HR2'.out
          rw [← HE.out, mixU, List.take_zero, List.drop_zero, List.map_append]
          exact this⟩
        have HLU := Aside0.mk hlu
        clear hlu HN HR2' HR hx
        go_wp2
        clear f2 hfz c0 c1 c2 c3
        go_loopw [58] (fun i wr2 => ∃ k : Nat, k ≤ pre.length + 1 ∧ i = .int .i64 k ∧ Aside0 (Rv wr2 (w.heap.size + 1) (some ⟨g, 0, none⟩) (pre.length + 1) c (mixU (unitsOf s) k)) ∧ Aside0 (Below w.heap.size w wr2)) (fun i _ => pre.length + 1 - (intOf i).toNat)
        case atStart => exact ⟨0, Nat.zero_le _, rfl, HR3, HB2⟩
        case round =>
          clear HB2 HR3 HB
          obtain ⟨k, hk, rfl, HR, HB⟩ := hrel
          by_cases hlt2 : k < pre.length + 1
          · obtain ⟨u, hu⟩ : ∃ u, (unitsOf s)[k]? = some u := ⟨_, List.getElem?_eq_getElem (by rw [HLU.out]; exact hlt2)⟩
            obtain ⟨g', x, hA, hx, hg', hgl', hfz, c0, c1, c2, c3⟩ := HR.out.el k (by rw [mixU_len, HLU.out]; exact hlt2)
            obtain rfl : g = g' := by injection hA with hA; injection hA
            obtain rfl := Option.some.inj ((mixU_at hu).symm.trans hx.out)
            dsimp only [uv0] at c0 c1 c2 c3
            have f3 := hfz (k * 4 + 3)
            have HS2 := Aside0.mk (HR.out.set k 3 (uv0 u) (uv1 u) (.bool (okU u)) (mixU_at hu) (by decide) rfl)
            have HB3 : Aside0 (Below w.heap.size w (wr.setCell ⟨g, k * 4 + 3, none⟩ (.bool (okU u)))) := ⟨HB.out.setCell (p := ⟨g, k * 4 + 3, none⟩) (by simp; omega) _⟩
            have HU := Aside0.mk hu
            clear hu hfz hA hx
            cases h1 : u.1 != 65533
            · have hok : okU u = (u.2.2 == 3) := by rw [okU, h1, Bool.false_or]
              rw [hok] at HS2 HB3
              go_wp2
              go_roundw
              case rel => exact ⟨k + 1, by omega, by go_num, ⟨by have := HS2.out; rwa [mixU_set HU.out] at this⟩, HB3⟩
              case measure => simp [intOf]; omega
            · have hok : okU u = true := by rw [okU, h1, Bool.true_or]
              rw [hok] at HS2 HB3
              go_wp2
              go_roundw
              case rel => exact ⟨k + 1, by omega, by go_num, ⟨by have := HS2.out; rwa [mixU_set HU.out] at this⟩, HB3⟩
              case measure => simp [intOf]; omega
          · go_wp2
            go_ret
            refine ⟨_, _, _, rfl, ?_, HB.out⟩
            have := HR.out
            rwa [mixU, List.take_of_length_le (by rw [HLU.out]; omega), List.drop_eq_nil_of_le (by rw [HLU.out]; omega), List.map_nil, List.append_nil] at this
theorem uv1_at {us : List Un} {k : Nat} {x : Uv} (h : (us.map uv1)[k]? = some x) : us.drop k = (x.1, x.2.1, x.2.2.1) :: us.drop (k + 1) ∧ x.2.2.2 = okU (x.1, x.2.1, x.2.2.1) := by
  rw [List.getElem?_map] at h
  obtain ⟨u, hu, rfl⟩ := Option.map_eq_some_iff.1 h
  obtain ⟨hk, hu⟩ := List.getElem?_eq_some_iff.1 hu
  exact ⟨by rw [List.drop_eq_getElem_cons hk, hu]; rfl, rfl⟩
theorem Rv.below {W W1 : World} {base n c : Nat} {A : Option Addr} {xs : List Uv} (h : Rv W base A n c xs) (hb : Below W.heap.size W W1) : Rv W1 base A n c xs := by
  obtain ⟨h0, inner, ⟨hl, ho⟩, hr⟩ := h.out
  refine ⟨⟨h0, inner, ⟨hl, ?_⟩, hr⟩⟩
  rcases ho with ho | ⟨g, cap, cur, hv, hb', hh, hnc, hcm, hcs, ht⟩
  · exact .inl ho
  · exact .inr ⟨g, cap, cur, hv, hb', blk_below hh hb, hnc, hcm, hcs, ht⟩
set_option maxHeartbeats 2000000 in
set_option maxRecDepth 100000 in
theorem rValid_calls (s : ByteArray) (w : World) (hs : s.size ≤ 120) : Calls Try.prog 95 #[.string s] w fun e w' => e = .returned (.bool (utfOK s)) ∧ Below w.heap.size w w' := by
  have hu110 := Try.underlying110
  have hu113 := Try.underlying113
  have H0 : Aside0 (utfOK s = ((unitsOf s).drop 0).all okU) := ⟨rfl⟩
  go_enter Try.func95, Try.ntmps95
  go_wp2_with (go_at_call 98; refine (rUnits_calls s _ hs).mono ?_; rintro e w1 ⟨A, n, c, rfl, hr, hb⟩; have HR := Aside0.mk hr; have HB0 := Aside0.mk hb; have hn := hr.len; have hm := Kd.C_max (Kd.R_reads' hr.out).2.2; clear hr hb)
  rw [List.length_map] at hn hm
  subst hn
  go_loopw [8] (fun i wr => ∃ k : Nat, k ≤ (unitsOf s).length ∧ i = .int .i64 k ∧ Aside0 (utfOK s = ((unitsOf s).drop k).all okU) ∧ Aside0 (Below w1.heap.size w1 wr)) (fun i _ => (unitsOf s).length - (intOf i).toNat)
  case atStart => exact ⟨0, Nat.zero_le _, rfl, H0, bel_refl _⟩
  case round =>
    clear H0
    obtain ⟨k, hk, rfl, HN, HB⟩ := hrel
    by_cases hlt : k < (unitsOf s).length
    · obtain ⟨g, x, rfl, hx, hg, hgl, hfz, c0, c1, c2, c3⟩ := (HR.out.below HB.out).el k (by rw [List.length_map]; exact hlt)
      obtain ⟨hd, ho⟩ := uv1_at hx.out
      have HN2 := Aside0.mk (HN.out.trans (by rw [hd, List.all_cons, ← ho]))
      clear hd ho HN hx hfz
      cases hb : x.2.2.2
      · rw [hb] at c3
        go_wp2
        go_ret
        exact ⟨ret_bool (by rw [HN2.out, hb]; rfl), (HB0.out.trans ((below_alloc HB.out _).mono (by have := HB0.out.size; omega)))⟩
      · rw [hb] at c3
        go_wp2
        go_roundw
        case rel => exact ⟨k + 1, by omega, by go_num, ⟨by rw [HN2.out, hb]; rfl⟩, bel_alloc HB _⟩
        case measure => simp [intOf]; omega
    · go_wp2
      go_ret
      exact ⟨ret_bool (by rw [HN.out, List.drop_eq_nil_of_le (by omega)]; rfl), HB0.out.trans (HB.out.mono (by have := HB0.out.size; omega))⟩
set_option maxHeartbeats 2000000 in
set_option maxRecDepth 100000 in
theorem rValidValue_calls (s : ByteArray) (w : World) (_ : s.size ≤ 140737488351232) : Calls Try.prog 93 #[.string s] w fun e w' => e = .returned (.int .i64 (validValue s)) ∧ Below w.heap.size w w' := by
  have hu9 := Try.underlying9
  have hu105 := Try.underlying105
  by_cases hl : 120 < s.size
  · go_enter Try.func93, Try.ntmps93
    go_wp2
    go_ret
    exact ⟨ret_int (by rw [validValue, if_pos hl]), Below.refl _ _⟩
  have hl' : s.size ≤ 120 := by omega
  cases hv : utfOK s
  · go_enter Try.func93, Try.ntmps93
    go_wp2_with (go_at_call 95; refine (rValid_calls _ _ hl').mono ?_; rintro e w1 ⟨rfl, hb⟩)
    go_ret
    exact ⟨ret_int (by rw [validValue, if_neg hl, if_pos hv]), hb⟩
  have kb := fun W => print_bytes (P := Try.prog) 9 105 5 hu9 hu105 Try.underlying5 s W
  have HV : Aside0 (validValue s = if ((bytesOf s).drop 0).any ctlB = true then 14 else 0) := ⟨by rw [validValue, if_neg hl, if_neg (by rw [hv]; decide), ctl_same s s.size 0 (by omega)]; rfl⟩
  go_enter Try.func93, Try.ntmps93
  go_wp2_with (go_at_call 95; refine (rValid_calls _ _ hl').mono ?_; rintro e w1 ⟨rfl, hb⟩)
  have HB := Aside0.mk (below_step hb (bytes_below (Below.refl w1.heap.size w1) (Nat.le_refl _) 5 s))
  clear hb
  go_loopw [14] (fun i wr => ∃ k : Nat, k ≤ s.size ∧ i = .int .i64 k ∧ wr = Lib.bytesWorld w1 5 s ∧ Aside0 (validValue s = if ((bytesOf s).drop k).any ctlB = true then 14 else 0)) (fun i _ => s.size - (intOf i).toNat)
  case atStart => exact ⟨0, Nat.zero_le _, rfl, rfl, HV⟩
  case round =>
    clear HV kb
    obtain ⟨k, hk, rfl, rfl, HN⟩ := hrel
    by_cases hlt : k < s.size
    · have hc : (Lib.bytesWorld w1 5 s).cell? ⟨w1.heap.size, k, none⟩ = some (.int .u8 (s[k].toNat : Int)) := by
        rw [Lib.bytesWorld_cell w1 5 s k hlt]
        have h' : k < s.data.toList.length := by rw [data_length]; exact hlt
        simp [List.getD_eq_getElem?_getD, List.getElem?_eq_getElem h']
        rfl
      generalize hb : (s[k].toNat : Int) = b at hc
      have HE := Aside0.mk (HN.out.trans (by rw [drop_bytes s k hlt, List.any_cons, hb]))
      have hb0 : 0 ≤ b := by omega
      have hb1 : b < 256 := by rw [← hb]; have := s[k].toNat_lt; omega
      clear hb HN
      by_cases h1 : b < 32
      · go_wp2
        go_ret
        exact ⟨ret_int (by rw [HE.out, if_pos (by simp [ctlB, h1])]), HB.out⟩
      · cases h2 : b == 127
        · go_wp2
          go_roundw
          case rel => exact ⟨k + 1, by omega, by go_num, trivial, ⟨by rw [HE.out, show ctlB b = false from by simp only [ctlB, h2]; simp; omega]; rfl⟩⟩
          case measure => simp [intOf]; omega
        · go_wp2
          go_ret
          exact ⟨ret_int (by rw [HE.out, if_pos (by simp [ctlB, h2])]), HB.out⟩
    · go_wp2
      go_ret
      exact ⟨ret_int (by rw [HN.out, List.drop_eq_nil_of_le (by rw [bytesOf_length]; omega)]; rfl), HB.out⟩
end Go.Proofs.Ytkdgholmfnidkaa
