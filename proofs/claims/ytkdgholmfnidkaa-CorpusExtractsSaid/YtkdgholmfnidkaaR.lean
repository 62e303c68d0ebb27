/- What came in, opened: a value that reads as plain data is of its kind, its strings within the reach, its numbers within their kind. -/
import Derived.Test.YtkdgholmfnidkaaO
import Derived.Deep.Slices
import Derived.SizedLaws
import Derived.ProofKit
import Derived.OpenShut
import Derived.ShutString
import Derived.ChangeOld
namespace Go.Proofs.Ytkdgholmfnidkaa
open Go.RowKit Go.Proofs.YtkdgholmfnidkaaW.PrintWords Go.Proofs.YtkdgholmfnidkaaW.PrintLast Go.Proofs.YtkdgholmfnidkaaW.PrintMore

theorem weights_all {H : Type} {P : Program} {e : TypeId} : ∀ {l : List (DataW H)} {d : DataW H}, d ∈ l → ∀ n ∈ d.weights P e, n ∈ DataW.weightsAll P e l
  | a :: l, d, hd, n, hn => by
    unfold DataW.weightsAll
    rcases List.mem_cons.1 hd with rfl | hd
    · exact List.mem_append_left _ hn
    · exact List.mem_append_right _ (weights_all hd n hn)
/-- Cells that read as data of type t are of kind d, and B holds of what they are. -/
def Op {α : Type} (d : Kd α) (t : TypeId) (B : α → Prop) : Prop :=
  ∀ {H : Type} (enc : TypeId × Value → H) (w : World) (fuel : Nat) (cs : List Value) (x : DataW H × List MemPlace), DataW.trod enc Try.prog w 0 (fun _ => true) true fuel t cs = some x → (∀ n ∈ x.1.weights Try.prog t, n ≤ reachBytes) → ∃ y, d.K w y cs ∧ B y
theorem Op_string {t : TypeId} (hu : Try.prog.underlying t = some .string) : Op Kd.string t (fun s => s.size ≤ 140737488351232) := by
  intro H enc w fuel cs x h hw
  obtain ⟨s, rfl, rfl, _⟩ := DataW.trod_string hu h
  exact ⟨s, rfl, by simpa [DataW.weights, reachBytes] using hw⟩
theorem Op_int {t : TypeId} (hu : Try.prog.underlying t = some (.int .i64)) : Op (Kd.int .i64) t (fun n => -9223372036854775808 ≤ n ∧ n ≤ 9223372036854775807) := by
  intro H enc w fuel cs x h hw
  obtain ⟨n, rfl, rfl, hwf⟩ := DataW.trod_int hu h
  refine ⟨n, rfl, ?_⟩
  simp [Lit.wf, IntKind.min, IntKind.max, IntKind.signed, IntKind.bits] at hwf
  exact hwf
theorem Op_bool {t : TypeId} (hu : Try.prog.underlying t = some .bool) : Op Kd.bool t (fun _ => True) := by
  intro H enc w fuel cs x h hw
  obtain ⟨b, rfl, rfl⟩ := DataW.trod_bool hu h
  exact ⟨b, rfl, trivial⟩
theorem Op_slice {α : Type} (z : α) {d : Kd α} {t e : TypeId} {B : α → Prop} (hu : Try.prog.underlying t = some (.slice e)) (hc : Try.prog.cellsOf e = d.sz) (ho : Op d e B) : Op (Kd.slice e d) t (fun l => ∀ y ∈ l, B y) := by
  intro H enc w fuel cs x h hw
  rcases Go.Deep.open_slice hu h with ⟨rfl, rfl⟩ | ⟨a, len, cap, m, n, D, Pl, rfl, _, hl, hm, hmm, rfl, hx⟩
  · exact ⟨[], ⟨none, 0, rfl, Nat.le_refl _, (R_CK (A := none) (c := 0) (Kd.R_nil d 0 w 0 (fun _ => True))).2⟩, by simp⟩
  · simp only [if_true] at hmm
    subst hmm
    haveI : Inhabited α := ⟨z⟩
    have each : ∀ i, i < len → ∃ y, ∃ cs', w.cells? 0 (a.add (i * Try.prog.cellsOf e)) (Try.prog.cellsOf e) = some cs' ∧ d.K w y cs' ∧ B y := by
      intro i hi
      obtain ⟨cs', h1, h2⟩ := hx i (by omega)
      obtain ⟨y, hK, hB⟩ := ho enc w n cs' _ h2 (fun q hq => hw q (by
        simp only [DataW.weights, hu]
        exact List.mem_cons_of_mem _ (List.mem_append_left _ (weights_all (d := D i) (List.mem_map.2 ⟨i, List.mem_range.2 hi, rfl⟩) q hq))))
      exact ⟨y, cs', h1, hK, hB⟩
    obtain ⟨f, hf⟩ := Go.Deep.choose_lt each
    have hlen : ((List.range len).map f).length = len := by simp
    refine ⟨(List.range len).map f, ⟨some a, m, by rw [hlen], by rw [hlen]; exact hl, rfl, by rw [hlen]; simp only [maxLen] at hm; omega, fun _ => ⟨a, rfl, fun j p hj => ?_⟩⟩, ?_⟩
    · have hjl : j < len := by have := (List.getElem?_eq_some_iff.1 hj).1; rwa [hlen] at this
      have hp : f j = p := by
        rw [List.getElem?_map, List.getElem?_range hjl] at hj
        simpa using hj
      subst hp
      obtain ⟨cs', h1, hK, _⟩ := hf j hjl
      obtain ⟨_, h2, h3⟩ := World.cells?_some h1
      rw [hc] at h1 h2 h3
      refine ⟨cs', h2, hK, fun i u hu' => ?_⟩
      have hi : i < d.sz := by rw [← h2]; exact (List.getElem?_eq_some_iff.1 hu').1
      have h4 := h3 i hi
      rw [Go.Deep.add_add] at h4
      exact h4.trans hu'
    · intro y hy
      obtain ⟨i, hi, rfl⟩ := List.mem_map.1 hy
      obtain ⟨_, _, _, hB⟩ := hf i (List.mem_range.1 hi)
      exact hB
theorem fields {H : Type} {enc : TypeId × Value → H} {w : World} {fuel : Nat} {t : TypeId} {fs : Array Field} {cs : List Value} {x : DataW H × List MemPlace} (ht : Try.prog.underlying t = some (.struct fs)) (h : DataW.trod enc Try.prog w 0 (fun _ => true) true fuel t cs = some x) (hw : ∀ n ∈ x.1.weights Try.prog t, n ≤ reachBytes) :
    ∃ n, cs.length = Try.prog.cellsOf t ∧ ∀ (j ft o : Nat), fs[j]?.map (fun f => (f.type, f.offset)) = some (ft, o) → Try.prog.cellsOf ft = 1 → ∃ y, DataW.trod enc Try.prog w 0 (fun _ => true) true n ft ((cs.drop o).take 1) = some y ∧ ∀ m ∈ y.1.weights Try.prog ft, m ≤ reachBytes := by
  obtain ⟨xs, n, rfl, rfl, hl, hxl, hf⟩ := DataW.trod_struct ht h
  refine ⟨n, hl, fun j ft o hj hc => ?_⟩
  obtain ⟨f, hj2, he⟩ := Option.map_eq_some_iff.1 hj
  clear hj
  injection he with h1 h2
  subst h1 h2
  rw [← hc]
  have hlt : j < xs.length := by rw [hxl]; exact (Array.getElem?_eq_some_iff.1 hj2).1
  refine ⟨xs[j], by rw [hf j f hj2, List.getElem?_eq_getElem hlt], fun m hm => hw m ?_⟩
  simp only [DataW.weights, ht]
  refine DataW.weights_mem_each (j := j) (t := f.type) (d := xs[j].1) ?_ ?_ m hm
  · rw [List.getElem?_map, Array.getElem?_toList, hj2]; rfl
  · rw [List.getElem?_map, List.getElem?_eq_getElem hlt]; rfl
theorem cells1 : Try.prog.cellsOf 9 = 1 ∧ Try.prog.cellsOf 4 = 1 ∧ Try.prog.cellsOf 3 = 1 ∧ Try.prog.cellsOf 37 = 1 ∧ Try.prog.cellsOf 22 = 1 ∧ Try.prog.cellsOf 23 = 1 ∧ Try.prog.cellsOf 24 = 1 ∧ Try.prog.cellsOf 25 = 1 ∧ Try.prog.cellsOf 26 = 1 ∧ Try.prog.cellsOf 27 = 1 ∧ Try.prog.cellsOf 28 = 1 := by
  refine ⟨?_, ?_, ?_, ?_, ?_, ?_, ?_, ?_, ?_, ?_, ?_⟩ <;> kernel_rfl
theorem cellsS : Try.prog.cellsOf 70 = 2 ∧ Try.prog.cellsOf 62 = 2 ∧ Try.prog.cellsOf 64 = 4 ∧ Try.prog.cellsOf 39 = 4 ∧ Try.prog.cellsOf 74 = 4 ∧ Try.prog.cellsOf 30 = 7 := by
  refine ⟨?_, ?_, ?_, ?_, ?_, ?_⟩ <;> kernel_rfl
theorem len2 : ∀ {cs : List Value}, cs.length = 2 → ∃ v0 v1, cs = [v0, v1]
  | [_, _], _ => ⟨_, _, rfl⟩
theorem len4 : ∀ {cs : List Value}, cs.length = 4 → ∃ v0 v1 v2 v3, cs = [v0, v1, v2, v3]
  | [_, _, _, _], _ => ⟨_, _, _, _, rfl⟩
theorem len7 : ∀ {cs : List Value}, cs.length = 7 → ∃ v0 v1 v2 v3 v4 v5 v6, cs = [v0, v1, v2, v3, v4, v5, v6]
  | [_, _, _, _, _, _, _], _ => ⟨_, _, _, _, _, _, _, rfl⟩
def rng (n : Int) : Prop := -9223372036854775808 ≤ n ∧ n ≤ 9223372036854775807
theorem Op_70 : Op k70 70 okP := by
  intro H enc w fuel cs x h hw
  obtain ⟨n, hl, hf⟩ := fields Try.underlying70 h hw
  rw [cellsS.1] at hl
  obtain ⟨v0, v1, rfl⟩ := len2 hl
  obtain ⟨y0, h0, w0⟩ := hf 0 9 0 rfl cells1.1
  obtain ⟨y1, h1, w1⟩ := hf 1 9 1 rfl cells1.1
  simp only [List.drop_succ_cons, List.drop_zero, List.take_succ_cons, List.take_zero] at h0 h1
  obtain ⟨s0, e0, b0⟩ := Op_string Try.underlying9 enc w n _ _ h0 w0
  obtain ⟨s1, e1, b1⟩ := Op_string Try.underlying9 enc w n _ _ h1 w1
  injection e0 with e0
  injection e1 with e1
  subst e0 e1
  exact ⟨⟨s0, s1⟩, k70_mk w ⟨s0, s1⟩, b0, b1⟩
theorem Op_62 : Op k62 62 (fun r => r.f0.size ≤ 140737488351232) := by
  intro H enc w fuel cs x h hw
  obtain ⟨n, hl, hf⟩ := fields Try.underlying62 h hw
  rw [cellsS.2.1] at hl
  obtain ⟨v0, v1, rfl⟩ := len2 hl
  obtain ⟨y0, h0, w0⟩ := hf 0 9 0 rfl cells1.1
  obtain ⟨y1, h1, w1⟩ := hf 1 4 1 rfl cells1.2.1
  simp only [List.drop_succ_cons, List.drop_zero, List.take_succ_cons, List.take_zero] at h0 h1
  obtain ⟨s0, e0, b0⟩ := Op_string Try.underlying9 enc w n _ _ h0 w0
  obtain ⟨s1, e1, b1⟩ := Op_bool Try.underlying4 enc w n _ _ h1 w1
  injection e0 with e0
  injection e1 with e1
  subst e0 e1
  exact ⟨⟨s0, s1⟩, k62_mk w ⟨s0, s1⟩, b0⟩
theorem Op_pairs : Op (Kd.slice 70 k70) 37 (fun l => ∀ p ∈ l, okP p) := Op_slice z70 Try.underlying37 cellsS.1 Op_70
theorem Op_64 : Op k64 64 (fun t => okT t ∧ rng t.f1 ∧ rng t.f2) := by
  intro H enc w fuel cs x h hw
  obtain ⟨n, hl, hf⟩ := fields Try.underlying64 h hw
  rw [cellsS.2.2.1] at hl
  obtain ⟨v0, v1, v2, v3, rfl⟩ := len4 hl
  obtain ⟨y0, h0, w0⟩ := hf 0 9 0 rfl cells1.1
  obtain ⟨y1, h1, w1⟩ := hf 1 3 1 rfl cells1.2.2.1
  obtain ⟨y2, h2, w2⟩ := hf 2 3 2 rfl cells1.2.2.1
  obtain ⟨y3, h3, w3⟩ := hf 3 37 3 rfl cells1.2.2.2.1
  simp only [List.drop_succ_cons, List.drop_zero, List.take_succ_cons, List.take_zero] at h0 h1 h2 h3
  obtain ⟨s0, e0, b0⟩ := Op_string Try.underlying9 enc w n _ _ h0 w0
  obtain ⟨s1, e1, b1⟩ := Op_int Try.underlying3 enc w n _ _ h1 w1
  obtain ⟨s2, e2, b2⟩ := Op_int Try.underlying3 enc w n _ _ h2 w2
  obtain ⟨s3, ⟨A, c, e3, l3, g3⟩, b3⟩ := Op_pairs enc w n _ _ h3 w3
  injection e0 with e0
  injection e1 with e1
  injection e2 with e2
  injection e3 with e3
  subst e0 e1 e2 e3
  exact ⟨⟨s0, s1, s2, s3⟩, k64_mk w ⟨s0, s1, s2, s3⟩ l3 g3, ⟨b0, b3⟩, b1, b2⟩
theorem Op_39 : Op k39 39 (fun t => okR t ∧ rng t.f1 ∧ rng t.f2) := by
  intro H enc w fuel cs x h hw
  obtain ⟨n, hl, hf⟩ := fields Try.underlying39 h hw
  rw [cellsS.2.2.2.1] at hl
  obtain ⟨v0, v1, v2, v3, rfl⟩ := len4 hl
  obtain ⟨y0, h0, w0⟩ := hf 0 9 0 rfl cells1.1
  obtain ⟨y1, h1, w1⟩ := hf 1 3 1 rfl cells1.2.2.1
  obtain ⟨y2, h2, w2⟩ := hf 2 3 2 rfl cells1.2.2.1
  obtain ⟨y3, h3, w3⟩ := hf 3 37 3 rfl cells1.2.2.2.1
  simp only [List.drop_succ_cons, List.drop_zero, List.take_succ_cons, List.take_zero] at h0 h1 h2 h3
  obtain ⟨s0, e0, b0⟩ := Op_string Try.underlying9 enc w n _ _ h0 w0
  obtain ⟨s1, e1, b1⟩ := Op_int Try.underlying3 enc w n _ _ h1 w1
  obtain ⟨s2, e2, b2⟩ := Op_int Try.underlying3 enc w n _ _ h2 w2
  obtain ⟨s3, ⟨A, c, e3, l3, g3⟩, b3⟩ := Op_pairs enc w n _ _ h3 w3
  injection e0 with e0
  injection e1 with e1
  injection e2 with e2
  injection e3 with e3
  subst e0 e1 e2 e3
  exact ⟨⟨s0, s1, s2, s3⟩, k39_mk w ⟨s0, s1, s2, s3⟩ l3 g3, ⟨b0, b3⟩, b1, b2⟩
theorem Op_74 : Op k74 74 (fun t => t.f0.size ≤ 140737488351232 ∧ rng t.f1 ∧ rng t.f2 ∧ rng t.f3) := by
  intro H enc w fuel cs x h hw
  obtain ⟨n, hl, hf⟩ := fields Try.underlying74 h hw
  rw [cellsS.2.2.2.2.1] at hl
  obtain ⟨v0, v1, v2, v3, rfl⟩ := len4 hl
  obtain ⟨y0, h0, w0⟩ := hf 0 9 0 rfl cells1.1
  obtain ⟨y1, h1, w1⟩ := hf 1 3 1 rfl cells1.2.2.1
  obtain ⟨y2, h2, w2⟩ := hf 2 3 2 rfl cells1.2.2.1
  obtain ⟨y3, h3, w3⟩ := hf 3 3 3 rfl cells1.2.2.1
  simp only [List.drop_succ_cons, List.drop_zero, List.take_succ_cons, List.take_zero] at h0 h1 h2 h3
  obtain ⟨s0, e0, b0⟩ := Op_string Try.underlying9 enc w n _ _ h0 w0
  obtain ⟨s1, e1, b1⟩ := Op_int Try.underlying3 enc w n _ _ h1 w1
  obtain ⟨s2, e2, b2⟩ := Op_int Try.underlying3 enc w n _ _ h2 w2
  obtain ⟨s3, e3, b3⟩ := Op_int Try.underlying3 enc w n _ _ h3 w3
  injection e0 with e0
  injection e1 with e1
  injection e2 with e2
  injection e3 with e3
  subst e0 e1 e2 e3
  exact ⟨⟨s0, s1, s2, s3⟩, k74_mk w ⟨s0, s1, s2, s3⟩, b0, b1, b2, b3⟩
/-- Its numbers lie within their kind. -/
structure okI (x : S30) : Prop where
  t : ∀ t ∈ x.f2, rng t.f1 ∧ rng t.f2
  r : ∀ r ∈ x.f3, rng r.f1 ∧ rng r.f2
  n : ∀ n ∈ x.f4, rng n.f1 ∧ rng n.f2 ∧ rng n.f3
  h : ∀ h ∈ x.f5, rng h
theorem Op_30 : Op k30 30 (fun x => okC x ∧ okI x) := by
  intro H enc w fuel cs x h hw
  obtain ⟨n, hl, hf⟩ := fields Try.underlying30 h hw
  rw [cellsS.2.2.2.2.2] at hl
  obtain ⟨v0, v1, v2, v3, v4, v5, v6, rfl⟩ := len7 hl
  obtain ⟨y0, h0, w0⟩ := hf 0 22 0 rfl cells1.2.2.2.2.1
  obtain ⟨y1, h1, w1⟩ := hf 1 23 1 rfl cells1.2.2.2.2.2.1
  obtain ⟨y2, h2, w2⟩ := hf 2 24 2 rfl cells1.2.2.2.2.2.2.1
  obtain ⟨y3, h3, w3⟩ := hf 3 25 3 rfl cells1.2.2.2.2.2.2.2.1
  obtain ⟨y4, h4, w4⟩ := hf 4 26 4 rfl cells1.2.2.2.2.2.2.2.2.1
  obtain ⟨y5, h5, w5⟩ := hf 5 27 5 rfl cells1.2.2.2.2.2.2.2.2.2.1
  obtain ⟨y6, h6, w6⟩ := hf 6 28 6 rfl cells1.2.2.2.2.2.2.2.2.2.2
  simp only [List.drop_succ_cons, List.drop_zero, List.take_succ_cons, List.take_zero] at h0 h1 h2 h3 h4 h5 h6
  obtain ⟨s0, ⟨A0, c0, e0, l0, g0⟩, b0⟩ := Op_slice z62 Try.underlying22 cellsS.2.1 Op_62 enc w n _ _ h0 w0
  obtain ⟨s1, ⟨A1, c1, e1, l1, g1⟩, b1⟩ := Op_slice ([] : List ByteArray) Try.underlying23 cells1.2.2.2.2.2.2.2.2.2.2 (Op_slice ByteArray.empty Try.underlying28 cells1.1 (Op_string Try.underlying9)) enc w n _ _ h1 w1
  obtain ⟨s2, ⟨A2, c2, e2, l2, g2⟩, b2⟩ := Op_slice z64 Try.underlying24 cellsS.2.2.1 Op_64 enc w n _ _ h2 w2
  obtain ⟨s3, ⟨A3, c3, e3, l3, g3⟩, b3⟩ := Op_slice z39 Try.underlying25 cellsS.2.2.2.1 Op_39 enc w n _ _ h3 w3
  obtain ⟨s4, ⟨A4, c4, e4, l4, g4⟩, b4⟩ := Op_slice z74 Try.underlying26 cellsS.2.2.2.2.1 Op_74 enc w n _ _ h4 w4
  obtain ⟨s5, ⟨A5, c5, e5, l5, g5⟩, b5⟩ := Op_slice (0 : Int) Try.underlying27 cells1.2.2.1 (Op_int Try.underlying3) enc w n _ _ h5 w5
  obtain ⟨s6, ⟨A6, c6, e6, l6, g6⟩, b6⟩ := Op_slice ByteArray.empty Try.underlying28 cells1.1 (Op_string Try.underlying9) enc w n _ _ h6 w6
  injection e0 with e0
  injection e1 with e1
  injection e2 with e2
  injection e3 with e3
  injection e4 with e4
  injection e5 with e5
  injection e6 with e6
  subst e0 e1 e2 e3 e4 e5 e6
  exact ⟨⟨s0, s1, s2, s3, s4, s5, s6⟩, k30_mk w ⟨s0, s1, s2, s3, s4, s5, s6⟩ l0 g0 l1 g1 l2 g2 l3 g3 l4 g4 l5 g5 l6 g6, ⟨b0, b1, fun r hr => (b2 r hr).1, fun r hr => (b3 r hr).1, fun r hr => (b4 r hr).1, b6⟩, ⟨fun r hr => (b2 r hr).2, fun r hr => (b3 r hr).2, fun r hr => (b4 r hr).2, b5⟩⟩
theorem opened {α : Type} {d : Kd α} {t : TypeId} {B : α → Prop} (ho : Op d t B) {H : Type} {enc : TypeId × Value → H} {w : World} {v : Value} {x : DataW H} {ps : List MemPlace} (h : DataW.Trod enc Try.prog w 0 (fun _ => true) true t v x ps) (hw : ∀ n ∈ x.weights Try.prog t, n ≤ reachBytes) : ∃ y, d.K w y v.cells.toList ∧ B y := by
  obtain ⟨fuel, hf⟩ := h
  exact ho enc w fuel _ _ hf hw
theorem agg_of {v : Value} {cs : List Value} (h : v.cells.toList = cs) (hl : cs.length ≠ 1) : v = .agg cs.toArray := by
  subst h
  cases v <;> first | rfl | exact absurd rfl hl
theorem slice_of {v : Value} {A A' : Option Addr} {n n' c c' : Nat} (h : v.cells.toList = [.slice A n c]) (hv : v = .slice A' n' c') : v = .slice A n c := by
  subst hv
  simpa [Value.cells] using h
theorem laidOut : laidOutB Try.prog = true := by kernel_rfl
theorem own : ownKnob Try.prog.godebug = none := by kernel_rfl
end Go.Proofs.Ytkdgholmfnidkaa
