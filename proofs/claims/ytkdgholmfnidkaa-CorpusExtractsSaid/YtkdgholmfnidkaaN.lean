/- Small laws for Extract's walk: the boxes that lie still, the box that grows, rows made anew. -/
import Derived.Test.YtkdgholmfnidkaaK
import Derived.Test.YtkdgholmfnidkaaL
namespace Go.Proofs.Ytkdgholmfnidkaa
open Go.RowKit Go.Proofs.YtkdgholmfnidkaaW.PrintWords Go.Proofs.YtkdgholmfnidkaaW.PrintLast Go.Proofs.YtkdgholmfnidkaaW.PrintMore

/-- A struct of seven cells stored whole. -/
def put7 (W : World) (g : Nat) (v0 v1 v2 v3 v4 v5 v6 : Value) : World := (((((((W.setCell ⟨g, 0, none⟩ v0).setCell ⟨g, 1, none⟩ v1).setCell ⟨g, 2, none⟩ v2).setCell ⟨g, 3, none⟩ v3).setCell ⟨g, 4, none⟩ v4).setCell ⟨g, 5, none⟩ v5).setCell ⟨g, 6, none⟩ v6)
theorem put7_blk {W : World} {g : Nat} {a0 a1 a2 a3 a4 a5 a6 : Value} (h : W.heap[g]? = some (.cells #[a0, a1, a2, a3, a4, a5, a6] 30 (0, 0))) (v0 v1 v2 v3 v4 v5 v6 : Value) : (put7 W g v0 v1 v2 v3 v4 v5 v6).heap[g]? = some (.cells #[v0, v1, v2, v3, v4, v5, v6] 30 (0, 0)) := by
  have h0 := blk_put h 0 v0 (cs' := #[v0, a1, a2, a3, a4, a5, a6]) rfl
  have h1 := blk_put h0 1 v1 (cs' := #[v0, v1, a2, a3, a4, a5, a6]) rfl
  have h2 := blk_put h1 2 v2 (cs' := #[v0, v1, v2, a3, a4, a5, a6]) rfl
  have h3 := blk_put h2 3 v3 (cs' := #[v0, v1, v2, v3, a4, a5, a6]) rfl
  have h4 := blk_put h3 4 v4 (cs' := #[v0, v1, v2, v3, v4, a5, a6]) rfl
  have h5 := blk_put h4 5 v5 (cs' := #[v0, v1, v2, v3, v4, v5, a6]) rfl
  have h6 := blk_put h5 6 v6 (cs' := #[v0, v1, v2, v3, v4, v5, v6]) rfl
  exact h6
theorem put7_below {w W : World} {g : Nat} (h : Below w.heap.size w W) (hg : w.heap.size ≤ g) (v0 v1 v2 v3 v4 v5 v6 : Value) : Below w.heap.size w (put7 W g v0 v1 v2 v3 v4 v5 v6) := (below_set (below_set (below_set (below_set (below_set (below_set (below_set h hg) hg) hg) hg) hg) hg) hg)
/-- The boxes that lie still while Extract runs: c's own, the result's, the text's. -/
structure Xs (w : World) (cs : Array Value) (g : Nat) (tv : Array Value) (W : World) : Prop where
  be : Below w.heap.size w W
  c : W.heap[w.heap.size]? = some (.cells cs 30 (0, 0))
  r : W.heap[w.heap.size + 1]? = some (.cells #[.slice none 0 0, .slice none 0 0, .slice none 0 0, .slice none 0 0, .slice none 0 0, .slice none 0 0, .slice none 0 0] 30 (0, 0))
  t : W.heap[g]? = some (.cells tv 64 (0, 0))
  le : w.heap.size ≤ g
section
variable {w W W2 : World} {cs tv : Array Value} {g : Nat}
theorem Xs.step (h : Xs w cs g tv W) (k : Below W.heap.size W W2) : Xs w cs g tv W2 := ⟨below_step h.be k, blk_below h.c k, blk_below h.r k, blk_below h.t k, h.le⟩
theorem Xs.alloc (h : Xs w cs g tv W) (o : Obj) : Xs w cs g tv (W.alloc o) := h.step (below_alloc (Below.refl _ _) o)
theorem Xs.drew (h : Xs w cs g tv W) : Xs w cs g tv W.drew := h.step (pw_below_drewN (Below.refl _ _) 1)
theorem Xs.set_ (h : Xs w cs g tv W) {g' j : Nat} (h0 : w.heap.size + 1 < g') (h1 : g' ≠ g) (v : Value) : Xs w cs g tv (W.setCell ⟨g', j, none⟩ v) :=
  ⟨below_set h.be (by omega), blk_far h.c (by simp; omega) v, blk_far h.r (by simp; omega) v, blk_far h.t (by simp; omega) v, h.le⟩
end
theorem bel_size {w W : World} (h : Aside0 (Below w.heap.size w W)) : w.heap.size ≤ W.heap.size := h.out.size
theorem grown_below {W w1 : World} (h : W.grownBy w1 (Value.slice none 0 0).ownBlock) : Below W.heap.size W w1 := ⟨h.os, h.tape, h.output, h.size, fun i hi => h.block i hi (by simp [Value.ownBlock])⟩
theorem attrs_le {l : List S62} (h : (attrsErr l).2 = 0) : l.length ≤ 8 := by
  unfold attrsErr at h
  split at h
  · simp at h
  split at h
  · simp at h
  omega
theorem k30_zero (w : World) : k30.K w z30 [.slice none 0 0, .slice none 0 0, .slice none 0 0, .slice none 0 0, .slice none 0 0, .slice none 0 0, .slice none 0 0] := by
  have h : ∀ {α : Type} (d : Kd α), d.C w none ([] : List α).length [] := fun d => by
    obtain ⟨A, c, e, _, hC⟩ := Kd.R_reads (Kd.R_nil d 0 w 0 (fun _ => True))
    injection e with e1 _ _
    subst e1
    exact hC
  exact k30_mk w z30 (c0 := 0) (Nat.le_refl _) (h k62) (c1 := 0) (Nat.le_refl _) (h _) (c2 := 0) (Nat.le_refl _) (h k64) (c3 := 0) (Nat.le_refl _) (h k39) (c4 := 0) (Nat.le_refl _) (h k74) (c5 := 0) (Nat.le_refl _) (h _) (c6 := 0) (Nat.le_refl _) (h _)
theorem R_one {α : Type} (d : Kd α) (e : Nat) (W : World) (base : Nat) (x : α) (cs : List Value) {ok : Nat → Prop} (hp : d.M W base ok x cs) (hb : base ≤ W.heap.size) : d.R e (W.alloc (.cells cs.toArray e)) base (fun k => (ok k ∧ k < W.heap.size) ∨ k = W.heap.size) (.slice (some ⟨W.heap.size, 0, none⟩) 1 1) [x] := by
  have hl := d.K_len (d.K_of_M hp)
  have hp' := Kd.M_below (d.M_bound hp) (below_alloc (Below.refl _ _) (.cells cs.toArray e))
  refine ⟨fun k hk => ?_, cs, ⟨by simpa using hl, .inr ⟨W.heap.size, 1, cs.toArray, rfl, hb, blk_new W _, Nat.le_refl _, by decide, by simpa using hl, ?_⟩⟩, ?_⟩
  · simp [Value.ownBlock] at hk
    exact .inr hk.symm
  · simp [← hl]
  · refine Reps.front (cs := []) (d.M_mono (fun k hk => ?_) hp') hl (Reps.none _ _) (by simp)
    refine ⟨.inl ⟨hk.1, hk.2.2.1⟩, ?_⟩
    have := hk.2.2.1
    simp [Value.ownBlock]
    omega
theorem R_put7 {α : Type} {d : Kd α} {e : Nat} {W : World} {base : Nat} {ok : Nat → Prop} {v : Value} {xs : List α} (h : d.R e W base ok v xs) {g : Nat} (hok : ∀ k, ok k → k ≠ g) (v0 v1 v2 v3 v4 v5 v6 : Value) : d.R e (put7 W g v0 v1 v2 v3 v4 v5 v6) base ok v xs :=
  Kd.R_far (p := ⟨g, _, none⟩) (Kd.R_far (p := ⟨g, _, none⟩) (Kd.R_far (p := ⟨g, _, none⟩) (Kd.R_far (p := ⟨g, _, none⟩) (Kd.R_far (p := ⟨g, _, none⟩) (Kd.R_far (p := ⟨g, _, none⟩) (Kd.R_far (p := ⟨g, _, none⟩) h hok _) hok _) hok _) hok _) hok _) hok _) hok _
theorem Xs.put7 {w W : World} {cs tv : Array Value} {g : Nat} (h : Xs w cs g tv W) {g' : Nat} (h0 : w.heap.size + 1 < g') (h1 : g' ≠ g) (v0 v1 v2 v3 v4 v5 v6 : Value) : Xs w cs g tv (Ytkdgholmfnidkaa.put7 W g' v0 v1 v2 v3 v4 v5 v6) :=
  (((((((h.set_ h0 h1 _).set_ h0 h1 _).set_ h0 h1 _).set_ h0 h1 _).set_ h0 h1 _).set_ h0 h1 _).set_ h0 h1 _)
theorem toks_rows {at_ : List S62} : ∀ {l : List (List ByteArray)} {k : Nat}, (toksGo at_ l k).2 = 0 → ∀ t ∈ l, t.length = at_.length
  | [], _, _, _, hm => by cases hm
  | r :: l, k, h, t, hm => by
    unfold toksGo at h
    split at h
    · simp at h
    split at h
    · rename_i hp; simp at h; simp [h] at hp
    rename_i h1 _
    rcases List.mem_cons.1 hm with rfl | hm
    · simpa using h1
    · exact toks_rows h t hm
theorem toks_in {at_ : List S62} {l : List (List ByteArray)} (h : (toksErr at_ l).2 = 0) : ∀ t ∈ l, t.length = at_.length := by
  unfold toksErr at h
  split at h
  · simp at h
  · exact toks_rows h
theorem info28 : (Try.prog.info? 28).map (fun i => (i.zero, i.size, i.bytes)) = some (some (.slice none 0 0), 1, 24) := by kernel_rfl
theorem info74 : (Try.prog.info? 74).map (fun i => (i.zero, i.size, i.bytes)) = some (some (.agg #[(.string ⟨#[]⟩), (.int .i64 0), (.int .i64 0), (.int .i64 0)]), 4, 40) := by kernel_rfl
/-- What holds while d's fields grow: Wj is the world at the loop's start. -/
structure St (w Wj : World) (gd : Nat) (vs : Array Value) (W : World) : Prop where
  be : Below w.heap.size w W
  kp : KeepBut Wj W gd none
  d : W.heap[gd]? = some (.cells vs 30 (0, 0))
section
variable {w Wj W W2 : World} {gd : Nat} {vs : Array Value}
theorem St.size (h : St w Wj gd vs W) : Wj.heap.size ≤ W.heap.size := h.kp.1
theorem St.step (h : St w Wj gd vs W) (k : Below W.heap.size W W2) : St w Wj gd vs W2 := ⟨below_step h.be k, h.kp.trans (KeepBut.of_below k gd none) (.inl rfl), blk_below h.d k⟩
theorem St.alloc (h : St w Wj gd vs W) (o : Obj) : St w Wj gd vs (W.alloc o) := h.step (below_alloc (Below.refl _ _) o)
theorem St.drew (h : St w Wj gd vs W) : St w Wj gd vs W.drew := h.step (pw_below_drewN (Below.refl _ _) 1)
theorem St.grown (h : St w Wj gd vs W) {row : Option Nat} (hg : W.grownBy W2 row) (hr : ∀ b, row = some b → Wj.heap.size ≤ b) (hw : w.heap.size ≤ Wj.heap.size) (hd : gd < Wj.heap.size) : St w Wj gd vs W2 := by
  have hs := h.kp.1
  refine ⟨⟨hg.os.trans h.be.os, hg.tape.trans h.be.tape, hg.output.trans h.be.output, Nat.le_trans h.be.size hg.size, fun k hk => ?_⟩, h.kp.trans (KeepBut.of_grown hg gd) ?_, ?_⟩
  · rw [hg.block k (by omega) (fun e => by have := hr k e.symm; omega)]; exact h.be.block k hk
  · cases hrow : row with
    | none => exact .inl rfl
    | some b => exact .inr ⟨b, rfl, hr b hrow⟩
  · rw [hg.block gd (by omega) (fun e => by have := hr gd e.symm; omega)]; exact h.d
theorem St.put (h : St w Wj gd vs W) (hg : w.heap.size ≤ gd) (j : Nat) (v : Value) {vs' : Array Value} (hv : vs.setIfInBounds j v = vs') : St w Wj gd vs' (W.setCell ⟨gd, j, none⟩ v) := ⟨below_set h.be hg, h.kp.set_ j v, blk_put h.d j v hv⟩
theorem St.xs {cs tv : Array Value} {gT : Nat} (h : St w Wj gd vs W) (X : Xs w cs gT tv Wj) (h0 : w.heap.size + 1 < gd) (h1 : gd ≠ gT) : Xs w cs gT tv W :=
  ⟨h.be, h.kp.blk X.c (by omega) (by simp), h.kp.blk X.r (by omega) (by simp), h.kp.blk X.t (by omega) (by simp), X.le⟩
theorem St.refl {cs tv : Array Value} {gT : Nat} (X : Xs w cs gT tv W) (hd : W.heap[gd]? = some (.cells vs 30 (0, 0))) : St w W gd vs W := ⟨X.be, KeepBut.refl _ _ _, hd⟩
end
theorem R_CK {α : Type} {d : Kd α} {e : Nat} {W : World} {base : Nat} {ok : Nat → Prop} {A : Option Addr} {c : Nat} {xs : List α} (h : d.R e W base ok (.slice A xs.length c) xs) : xs.length ≤ c ∧ d.C W A xs.length xs := by
  obtain ⟨A', c', he, hl, hc⟩ := Kd.R_reads h
  injection he with h1 _ h3
  subst h1 h3
  exact ⟨hl, hc⟩
theorem R_grown_ne {α β : Type} {d1 : Kd α} {d2 : Kd β} {e1 e2 : Nat} {W W2 : World} {b1 b2 : Nat} {ok1 ok2 : Nat → Prop} {v1 v2 : Value} {xs : List α} {ys : List β} (h1 : d1.R e1 W b1 ok1 v1 xs) (h2 : d2.R e2 W b2 ok2 v2 ys) (he : ∀ q ∈ e2 :: d2.E, q ≠ e1) (hg : W.grownBy W2 v1.ownBlock) : d2.R e2 W2 b2 ok2 v2 ys := by
  obtain ⟨_, inner, ho, _⟩ := h1
  refine Kd.R_mono (Kd.R_step (Kd.R_bound h2) (fun k hk hlt => hg.block k hlt ?_)) (fun _ hk => hk.1)
  obtain ⟨_, _, _, q, hq, cells, hc⟩ := hk
  intro e
  obtain ⟨cells', hc'⟩ := own_typed ho k e.symm
  rw [hc] at hc'
  injection hc' with hc'
  injection hc' with _ hc'
  exact he q hq hc'
theorem mid_succ {α : Type} {xs : List α} {b p : Nat} {a : α} (hb : b ≤ p) (hp : xs[p]? = some a) : (xs.take (p + 1)).drop b = (xs.take p).drop b ++ [a] := by
  have hl := (List.getElem?_eq_some_iff.1 hp).1
  rw [List.take_add_one, hp, List.drop_append_of_le_length (by rw [List.length_take]; omega)]
  rfl
theorem heads_in {ts : List S64} {n : Nat} {cy : List Bool} (hts : ∀ t ∈ ts, 0 ≤ t.f1 ∧ t.f2 ≤ (n : Int)) : ∀ (hs : List Int) (fs : List ByteArray) (k : Nat), (headsGo ts cy hs fs k).2 = 0 → hs.length = fs.length → ∀ h ∈ hs, h = -1 ∨ (0 ≤ h ∧ h < (n : Int))
  | [], _, _, _, _, _, hm => by cases hm
  | _ :: _, [], _, _, hl, _, _ => by simp at hl
  | h0 :: l, f :: m, k, h, hl, u, hm => by
    unfold headsGo at h
    split at h
    · simp at h
    split at h
    · simp at h
    split at h
    · simp at h
    rename_i h1 _ _
    rcases List.mem_cons.1 hm with rfl | hm
    · by_cases h2 : u = -1
      · exact .inl h2
      · right
        have hx : 0 ≤ (txOf ts k).f1 ∧ (txOf ts k).f2 ≤ (n : Int) := by
          unfold txOf
          cases hq : ts.find? (inT (k : Int)) with
          | none => exact ⟨Int.le_refl _, by show (0 : Int) ≤ n; omega⟩
          | some t => exact hts t (List.mem_of_find?_eq_some hq)
        have : ¬ (u < (txOf ts k).f1 ∨ (txOf ts k).f2 ≤ u) := fun h3 => h1 ⟨h2, h3⟩
        omega
    · exact heads_in hts l m (k + 1) h (by simpa using hl) u hm
theorem heads_ok {ts : List S64} {n : Nat} {hs : List Int} {fs : List ByteArray} (hts : ∀ t ∈ ts, 0 ≤ t.f1 ∧ t.f2 ≤ (n : Int)) (h : (headsErr n ts hs fs).2 = 0) : hs.length = fs.length ∧ (0 < hs.length → hs.length = n) ∧ ∀ u ∈ hs, u = -1 ∨ (0 ≤ u ∧ u < (n : Int)) := by
  unfold headsErr at h
  split at h
  · simp at h
  split at h
  · simp at h
  rename_i h1 _
  exact ⟨by omega, by omega, heads_in hts hs fs 0 h (by omega)⟩
theorem R_fin {α : Type} {d : Kd α} {e : Nat} {W U : World} {base : Nat} {ok : Nat → Prop} {v : Value} {xs : List α} (h : d.R e W base ok v xs) (hb : Below W.heap.size W U) {g : Nat} (hg : g < base) (v0 v1 v2 v3 v4 v5 v6 : Value) : d.R e (put7 U g v0 v1 v2 v3 v4 v5 v6) base (fun k => base ≤ k) v xs :=
  R_put7 (Kd.R_mono (Kd.R_bound (Kd.R_below h hb)) (fun _ hk => hk.2.1)) (fun k hk => by omega) v0 v1 v2 v3 v4 v5 v6
/-- The rows of d give the corpus. -/
theorem K_fin {W : World} {y : S30} {b0 b1 b2 b3 b4 b5 b6 : Nat} {o0 o1 o2 o3 o4 o5 o6 : Nat → Prop} {A0 A1 A2 A3 A4 A5 A6 : Option Addr} {c0 c1 c2 c3 c4 c5 c6 : Nat}
    (r0 : k62.R 62 W b0 o0 (.slice A0 y.f0.length c0) y.f0) (r1 : (Kd.slice 9 Kd.string).R 28 W b1 o1 (.slice A1 y.f1.length c1) y.f1) (r2 : k64.R 64 W b2 o2 (.slice A2 y.f2.length c2) y.f2) (r3 : k39.R 39 W b3 o3 (.slice A3 y.f3.length c3) y.f3)
    (r4 : k74.R 74 W b4 o4 (.slice A4 y.f4.length c4) y.f4) (r5 : (Kd.int .i64).R 3 W b5 o5 (.slice A5 y.f5.length c5) y.f5) (r6 : Kd.string.R 9 W b6 o6 (.slice A6 y.f6.length c6) y.f6) :
    k30.K W y [.slice A0 y.f0.length c0, .slice A1 y.f1.length c1, .slice A2 y.f2.length c2, .slice A3 y.f3.length c3, .slice A4 y.f4.length c4, .slice A5 y.f5.length c5, .slice A6 y.f6.length c6] :=
  k30_mk W y (R_CK r0).1 (R_CK r0).2 (R_CK r1).1 (R_CK r1).2 (R_CK r2).1 (R_CK r2).2 (R_CK r3).1 (R_CK r3).2 (R_CK r4).1 (R_CK r4).2 (R_CK r5).1 (R_CK r5).2 (R_CK r6).1 (R_CK r6).2
end Go.Proofs.Ytkdgholmfnidkaa
