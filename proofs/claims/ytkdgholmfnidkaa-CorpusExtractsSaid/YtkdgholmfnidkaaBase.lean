/- Small lemmas for this seat's walks: an element of a slice that is read, as a letter of its own. -/
import Derived.Test.YtkdgholmfnidkaaKinds
import Derived.WalkLawsBesides
namespace Go.Proofs.Ytkdgholmfnidkaa
open Go.RowKit Go.Proofs.YtkdgholmfnidkaaW.PrintWords Go.Proofs.YtkdgholmfnidkaaW.PrintLast Go.Proofs.YtkdgholmfnidkaaW.PrintMore

theorem dropG {α : Type} (d : α) (xs : List α) (k : Nat) (h : k < xs.length) : xs.drop k = xs.getD k d :: xs.drop (k + 1) := by
  rw [List.drop_eq_getElem_cons h, List.getD_eq_getElem?_getD, List.getElem?_eq_getElem h]; rfl
theorem ret_int {k : IntKind} {a b : Int} (h : a = b) : Ending.returned (.int k a) = .returned (.int k b) := by rw [h]
theorem ret_bool {a b : Bool} (h : a = b) : Ending.returned (.bool a) = .returned (.bool b) := by rw [h]
theorem ret_pair {k k' : IntKind} {a b a' b' : Int} (h : a = b) (h' : a' = b') : Ending.returned (.tuple #[.int k a, .int k' a']) = .returned (.tuple #[.int k b, .int k' b']) := by rw [h, h']

theorem bcell {W w1 : World} (hb : Below W.heap.size W w1) : (∀ b o, b < W.heap.size → w1.cell? ⟨b, o, none⟩ = W.cell? ⟨b, o, none⟩) ∧ (∀ b o, b < W.heap.size → w1.frozen? ⟨b, o, none⟩ = W.frozen? ⟨b, o, none⟩) :=
  ⟨fun b o h => hb.cell (p := ⟨b, o, none⟩) h, fun b o h => hb.frozen (p := ⟨b, o, none⟩) h⟩
theorem quiet_add_left {P : Program} {f : FuncId} {args : Array Value} {w : World} {a n : Nat} {v : Value}
    (h : Calls P f args (w.drewN (a + n)) fun e w' => e = .returned v ∧ w.drewN (a + n) = w') :
    Calls P f args (w.drewN (a + n)) fun e w'' => e = .returned v ∧ ∃ m, w'' = w.drewN (a + m) :=
  h.mono fun _ _ ⟨he, hm⟩ => ⟨he, n, hm.symm⟩
theorem quiet_left {P : Program} {f : FuncId} {args : Array Value} {w : World} {n : Nat} {v : Value}
    (h : Calls P f args (w.drewN n) fun e w' => e = .returned v ∧ w.drewN n = w') : Calls P f args (w.drewN n) fun e w'' => e = .returned v ∧ ∃ m, w'' = w.drewN m :=
  h.mono fun _ _ ⟨he, hm⟩ => ⟨he, n, hm.symm⟩
theorem bel_refl (w : World) : Aside0 (Below w.heap.size w w) := ⟨Below.refl _ _⟩
theorem bel_alloc {w W : World} (h : Aside0 (Below w.heap.size w W)) (o : Obj) : Aside0 (Below w.heap.size w (W.alloc o)) := ⟨below_alloc h.out o⟩
theorem bel_drewN {w W : World} (h : Aside0 (Below w.heap.size w W)) (n : Nat) : Aside0 (Below w.heap.size w (W.drewN n)) := ⟨pw_below_drewN h.out n⟩
theorem bel_step {w W w2 : World} (h : Aside0 (Below w.heap.size w W)) (k : Below W.heap.size W w2) : Aside0 (Below w.heap.size w w2) := ⟨below_step h.out k⟩
theorem elG {α : Type} {d : Kd α} {w wr : World} {A : Option Addr} {n : Nat} {xs : List α} (h : Aside0 (d.C w A n xs)) (hB : Aside0 (Below w.heap.size w wr)) (z : α) (k : Nat) (hk : k < n) :
    ∃ ad x cs, A = some ad ∧ Aside0 (xs.drop k = x :: xs.drop (k + 1)) ∧ Aside0 (xs[k]? = some x) ∧ d.K w x cs ∧ ∀ j u, cs[j]? = some u → wr.cell? (ad.add (k * d.sz + j)) = some u := by
  have hl := Kd.C_len h.out
  obtain ⟨ad, c, e, _, hK, hc⟩ := Kd.C_get h.out z (k : Int) (by omega) (by omega)
  simp only [Int.toNat_natCast] at hK hc
  refine ⟨ad, _, c, e, ⟨dropG z xs k (by omega)⟩, ⟨?_⟩, hK, fun j u hu => pw_cell_below hB.out (hc j u hu)⟩
  rw [List.getD_eq_getElem?_getD, List.getElem?_eq_getElem (by omega)]; rfl
section
variable {w wr : World} {A : Option Addr} {n : Nat}
theorem el64 {xs : List S64} (h : Aside0 (k64.C w A n xs)) (hB : Aside0 (Below w.heap.size w wr)) (k : Nat) (hk : k < n) :
    ∃ ad x A3 c3, A = some ad ∧ Aside0 (xs.drop k = x :: xs.drop (k + 1)) ∧ Aside0 (xs[k]? = some x) ∧ wr.cell? (ad.add (k * 4)) = some (.string x.f0) ∧ wr.cell? ⟨(ad.add (k * 4)).block, (ad.add (k * 4)).off + 1, none⟩ = some (.int .i64 x.f1) ∧ wr.cell? ⟨(ad.add (k * 4)).block, (ad.add (k * 4)).off + 2, none⟩ = some (.int .i64 x.f2) ∧ wr.cell? ⟨(ad.add (k * 4)).block, (ad.add (k * 4)).off + 3, none⟩ = some (.slice A3 x.f3.length c3) ∧ Aside0 (x.f3.length ≤ c3) ∧ Aside0 (k70.C w A3 x.f3.length x.f3) := by
  obtain ⟨ad, x, cs, e, hd, hx, hK, hc⟩ := elG h hB z64 k hk
  obtain ⟨A3, c3, rfl, l3, g3⟩ := k64_open hK
  exact ⟨ad, x, A3, c3, e, hd, hx, hc 0 _ rfl, (add_field _ _ 1 (by omega)) ▸ hc 1 _ rfl, (add_field _ _ 2 (by omega)) ▸ hc 2 _ rfl, (add_field _ _ 3 (by omega)) ▸ hc 3 _ rfl, ⟨l3⟩, ⟨g3⟩⟩
theorem el39 {xs : List S39} (h : Aside0 (k39.C w A n xs)) (hB : Aside0 (Below w.heap.size w wr)) (k : Nat) (hk : k < n) :
    ∃ ad x A3 c3, A = some ad ∧ Aside0 (xs.drop k = x :: xs.drop (k + 1)) ∧ Aside0 (xs[k]? = some x) ∧ wr.cell? (ad.add (k * 4)) = some (.string x.f0) ∧ wr.cell? ⟨(ad.add (k * 4)).block, (ad.add (k * 4)).off + 1, none⟩ = some (.int .i64 x.f1) ∧ wr.cell? ⟨(ad.add (k * 4)).block, (ad.add (k * 4)).off + 2, none⟩ = some (.int .i64 x.f2) ∧ wr.cell? ⟨(ad.add (k * 4)).block, (ad.add (k * 4)).off + 3, none⟩ = some (.slice A3 x.f3.length c3) ∧ Aside0 (x.f3.length ≤ c3) ∧ Aside0 (k70.C w A3 x.f3.length x.f3) := by
  obtain ⟨ad, x, cs, e, hd, hx, hK, hc⟩ := elG h hB z39 k hk
  obtain ⟨A3, c3, rfl, l3, g3⟩ := k39_open hK
  exact ⟨ad, x, A3, c3, e, hd, hx, hc 0 _ rfl, (add_field _ _ 1 (by omega)) ▸ hc 1 _ rfl, (add_field _ _ 2 (by omega)) ▸ hc 2 _ rfl, (add_field _ _ 3 (by omega)) ▸ hc 3 _ rfl, ⟨l3⟩, ⟨g3⟩⟩
theorem el74 {xs : List S74} (h : Aside0 (k74.C w A n xs)) (hB : Aside0 (Below w.heap.size w wr)) (k : Nat) (hk : k < n) :
    ∃ ad x, A = some ad ∧ Aside0 (xs.drop k = x :: xs.drop (k + 1)) ∧ Aside0 (xs[k]? = some x) ∧ wr.cell? (ad.add (k * 4)) = some (.string x.f0) ∧ wr.cell? ⟨(ad.add (k * 4)).block, (ad.add (k * 4)).off + 1, none⟩ = some (.int .i64 x.f1) ∧ wr.cell? ⟨(ad.add (k * 4)).block, (ad.add (k * 4)).off + 2, none⟩ = some (.int .i64 x.f2) ∧ wr.cell? ⟨(ad.add (k * 4)).block, (ad.add (k * 4)).off + 3, none⟩ = some (.int .i64 x.f3) := by
  obtain ⟨ad, x, cs, e, hd, hx, hK, hc⟩ := elG h hB z74 k hk
  obtain rfl := k74_open hK
  exact ⟨ad, x, e, hd, hx, hc 0 _ rfl, (add_field _ _ 1 (by omega)) ▸ hc 1 _ rfl, (add_field _ _ 2 (by omega)) ▸ hc 2 _ rfl, (add_field _ _ 3 (by omega)) ▸ hc 3 _ rfl⟩
theorem el70 {xs : List S70} (h : Aside0 (k70.C w A n xs)) (hB : Aside0 (Below w.heap.size w wr)) (k : Nat) (hk : k < n) :
    ∃ ad x, A = some ad ∧ Aside0 (xs.drop k = x :: xs.drop (k + 1)) ∧ Aside0 (xs[k]? = some x) ∧ wr.cell? (ad.add (k * 2)) = some (.string x.f0) ∧ wr.cell? ⟨(ad.add (k * 2)).block, (ad.add (k * 2)).off + 1, none⟩ = some (.string x.f1) := by
  obtain ⟨ad, x, cs, e, hd, hx, hK, hc⟩ := elG h hB z70 k hk
  obtain rfl := k70_open hK
  exact ⟨ad, x, e, hd, hx, hc 0 _ rfl, (add_field _ _ 1 (by omega)) ▸ hc 1 _ rfl⟩
theorem el62 {xs : List S62} (h : Aside0 (k62.C w A n xs)) (hB : Aside0 (Below w.heap.size w wr)) (k : Nat) (hk : k < n) :
    ∃ ad x, A = some ad ∧ Aside0 (xs.drop k = x :: xs.drop (k + 1)) ∧ Aside0 (xs[k]? = some x) ∧ wr.cell? (ad.add (k * 2)) = some (.string x.f0) ∧ wr.cell? ⟨(ad.add (k * 2)).block, (ad.add (k * 2)).off + 1, none⟩ = some (.bool x.f1) := by
  obtain ⟨ad, x, cs, e, hd, hx, hK, hc⟩ := elG h hB z62 k hk
  obtain rfl := k62_open hK
  exact ⟨ad, x, e, hd, hx, hc 0 _ rfl, (add_field _ _ 1 (by omega)) ▸ hc 1 _ rfl⟩
theorem elL {xs : List (List ByteArray)} (h : Aside0 ((Kd.slice 9 Kd.string).C w A n xs)) (hB : Aside0 (Below w.heap.size w wr)) (k : Nat) (hk : k < n) :
    ∃ ad x A0 c0, A = some ad ∧ Aside0 (xs.drop k = x :: xs.drop (k + 1)) ∧ Aside0 (xs[k]? = some x) ∧ wr.cell? (ad.add k) = some (.slice A0 x.length c0) ∧ Aside0 (x.length ≤ c0) ∧ Aside0 (Kd.string.C w A0 x.length x) := by
  obtain ⟨ad, x, cs, e, hd, hx, hK, hc⟩ := elG h hB ([] : List ByteArray) k hk
  obtain ⟨A0, c0, rfl, l0, g0⟩ := hK
  refine ⟨ad, x, A0, c0, e, hd, hx, ?_, ⟨l0⟩, ⟨g0⟩⟩
  have hq := hc 0 _ rfl
  rwa [show k * (Kd.slice 9 Kd.string).sz + 0 = k from Nat.mul_one k] at hq
theorem elI {xs : List Int} {ik : IntKind} (h : Aside0 ((Kd.int ik).C w A n xs)) (hB : Aside0 (Below w.heap.size w wr)) (k : Nat) (hk : k < n) :
    ∃ ad x, A = some ad ∧ Aside0 (xs.drop k = x :: xs.drop (k + 1)) ∧ Aside0 (xs[k]? = some x) ∧ wr.cell? (ad.add k) = some (.int ik x) := by
  obtain ⟨ad, x, cs, e, hd, hx, hK, hc⟩ := elG h hB (0 : Int) k hk
  obtain rfl := hK
  refine ⟨ad, x, e, hd, hx, ?_⟩
  have hq := hc 0 _ rfl
  rwa [show k * (Kd.int ik).sz + 0 = k from Nat.mul_one k] at hq
theorem elS {xs : List ByteArray} (h : Aside0 (Kd.string.C w A n xs)) (hB : Aside0 (Below w.heap.size w wr)) (k : Nat) (hk : k < n) :
    ∃ ad x, A = some ad ∧ Aside0 (xs.drop k = x :: xs.drop (k + 1)) ∧ Aside0 (xs[k]? = some x) ∧ wr.cell? (ad.add k) = some (.string x) := by
  obtain ⟨ad, x, cs, e, hd, hx, hK, hc⟩ := elG h hB ByteArray.empty k hk
  obtain rfl := hK
  refine ⟨ad, x, e, hd, hx, ?_⟩
  have hq := hc 0 _ rfl
  rwa [show k * Kd.string.sz + 0 = k from Nat.mul_one k] at hq
end
end Go.Proofs.Ytkdgholmfnidkaa
