/- Regions sorted: what both functions return. -/
import Derived.Test.YtkdgholmfnidkaaX
namespace Go.Proofs.Ytkdgholmfnidkaa
open Go.RowKit Go.Proofs.YtkdgholmfnidkaaW.PrintWords Go.Proofs.YtkdgholmfnidkaaW.PrintLast Go.Proofs.YtkdgholmfnidkaaW.PrintMore

def posR (r : S39) (out : List S39) : Nat → Nat
  | 0 => 0
  | i + 1 => if cmpR r (out.getD i z39) < 0 then posR r out i else i + 1
def putR (out : List S39) (r : S39) : List S39 := out.take (posR r out out.length) ++ r :: out.drop (posR r out out.length)
def sortR (l : List S39) : List S39 := l.foldl putR []
theorem posR_le (r : S39) (out : List S39) : ∀ i, posR r out i ≤ i
  | 0 => Nat.le_refl _
  | i + 1 => by
    unfold posR
    split
    · exact Nat.le_succ_of_le (posR_le r out i)
    · exact Nat.le_refl _
theorem putR_len (out : List S39) (r : S39) : (putR out r).length = out.length + 1 := by
  have := posR_le r out out.length
  rw [putR, List.length_append, List.length_cons, List.length_take, List.length_drop]
  omega
theorem sortR_snoc {l : List S39} {k : Nat} {r : S39} (h : l[k]? = some r) : sortR (l.take (k + 1)) = putR (sortR (l.take k)) r := by
  rw [List.take_add_one, h, sortR, List.foldl_append]; rfl
theorem sortR_len : ∀ l : List S39, (sortR l).length = l.length := by
  intro l
  have : ∀ (l acc : List S39), (l.foldl putR acc).length = acc.length + l.length := by
    intro l
    induction l with
    | nil => intro acc; simp
    | cons a l ih => intro acc; rw [List.foldl_cons, ih, putR_len]; simp; omega
  simpa [sortR] using this l []
/-- What the keys' cells may lie in: what came in, or rows of keys. -/
def okk (w W : World) (k : Nat) : Prop := k < w.heap.size ∨ ∃ cells, W.heap[k]? = some (.cells cells 70 (0, 0))
def Ke (w W : World) (e : El) : Prop := Kd.F k70 W (okk w W) e.2.1 e.1.f3.length e.1.f3
theorem Ke.step {w W W1 : World} {e : El} (h : Ke w W e) (hm : ∀ k, okk w W k → k < W.heap.size → W1.heap[k]? = W.heap[k]?) : Ke w W1 e := by
  have h1 := Kd.F_step (W1 := W1) (Kd.F_bound h) (fun k hk hlt => hm k hk.1 hlt)
  refine Kd.F_mono h1 ?_
  rintro k ⟨hk | ⟨cells, hc⟩, hlt⟩
  · exact .inl hk
  · exact .inr ⟨cells, (hm k (.inr ⟨cells, hc⟩) hlt).trans hc⟩
theorem Ke.below {w W W1 : World} {e : El} (h : Ke w W e) (hb : Below W.heap.size W W1) : Ke w W1 e := h.step fun k _ hlt => hb.block k hlt
theorem Ke.grown {w W W1 : World} {e : El} (h : Ke w W e) {row : Option Nat} (hg : W.grownBy W1 row) (hr : ∀ g, row = some g → w.heap.size ≤ g ∧ ∃ cells, W.heap[g]? = some (.cells cells 39 (0, 0))) : Ke w W1 e := h.step fun k hk hlt => hg.block k hlt fun he => by
  obtain ⟨h1, cells, h2⟩ := hr k he.symm
  rcases hk with hk | ⟨c2, hc⟩
  · omega
  · rw [h2] at hc
    injection hc with hc
    injection hc with _ hc
    cases hc
theorem cell_lt {w : World} {a : Addr} {u : Value} (h : w.cell? a = some u) : a.block < w.heap.size := by
  rcases Nat.lt_or_ge a.block w.heap.size with h1 | h1
  · exact h1
  · have : w.heap[a.block]? = none := Array.getElem?_eq_none h1
    simp [World.cell?, this] at h
theorem C70_heap {w W' : World} {A : Option Addr} {n : Nat} {l : List S70} (h : k70.C w A n l) (hh : ∀ k, k < w.heap.size → W'.heap[k]? = w.heap[k]?) : k70.C W' A n l := by
  refine ⟨h.1, h.2.1, fun hn => ?_⟩
  obtain ⟨ad, e, hc⟩ := h.2.2 hn
  refine ⟨ad, e, fun j p hj => ?_⟩
  obtain ⟨c, hs, hr, hcell⟩ := hc j p hj
  refine ⟨c, hs, ?_, fun i u hu => ?_⟩
  · rw [k70_open hr]; exact k70_mk W' p
  · have h1 := hcell i u hu
    exact (World.cell?_of_block (hh _ (cell_lt h1))).trans h1
theorem Ke.came {w : World} {e : El} (h : k70.C w e.2.1 e.1.f3.length e.1.f3) : Ke w w e := fun _ hW => C70_heap h fun k hk => hW k (.inl hk) hk
theorem Ke.made {w w1 W : World} {e : El} (h : k70.R 70 W w1.heap.size (fun _ => True) (.slice e.2.1 e.1.f3.length e.2.2) e.1.f3) : Ke w W e :=
  Kd.F_mono (Kd.R_F (Kd.R_bound h)) fun k hk => by
    obtain ⟨_, _, _, q, hq, cells, hc⟩ := hk
    have : q = 70 := by simpa [k70, Kd.iso, Kd.pair, Kd.string, Kd.scalar] using hq
    subst this
    exact .inr ⟨cells, hc⟩
/-- The row reads as its regions. -/
theorem rows_K {w W : World} {base n : Nat} {ok : Nat → Prop} {v : Value} {acc : List El} (h : kE.R 39 W base ok v acc) (hk : ∀ e ∈ acc, Ke w W e) (hl : ∀ e ∈ acc, e.1.f3.length ≤ e.2.2) : ∃ A c, v = .slice A acc.length c ∧ acc.length ≤ c ∧ k39.C W A acc.length (acc.map (·.1)) := by
  obtain ⟨A, c, e, hc, hr⟩ := Kd.R_reads h
  refine ⟨A, c, e, hc, by simp, hr.2.1, fun hp => ?_⟩
  obtain ⟨ad, hA, hcell⟩ := hr.2.2 hp
  refine ⟨ad, hA, fun j p hj => ?_⟩
  rw [List.getElem?_map] at hj
  obtain ⟨x, hx, rfl⟩ := Option.map_eq_some_iff.1 hj
  obtain ⟨cs, hs, hK, hcc⟩ := hcell j x hx
  obtain rfl : cs = enE x := hK
  have hm := List.mem_of_getElem? hx
  exact ⟨enE x, hs, k39_mk W x.1 (hl x hm) (Kd.F_now (hk x hm)), hcc⟩
theorem set_at {α : Type} (a b : List α) (x y : α) : (a ++ x :: b).set a.length y = a ++ y :: b := by simp
/-- An element moved on, then put over: the list with it put in. -/
theorem put_at {acc : List El} {z e : El} {p : Nat} (hp : p < acc.length) : (((acc ++ [z]).take (p + 1) ++ ((acc ++ [z]).drop p).take (acc.length - p)).set p e) = acc.take p ++ e :: acc.drop p := by
  have h1 : (acc ++ [z]).take (p + 1) = acc.take p ++ [acc[p]] := by
    rw [List.take_append_of_le_length (by omega), List.take_add_one, List.getElem?_eq_getElem hp]; rfl
  have h2 : ((acc ++ [z]).drop p).take (acc.length - p) = acc.drop p := by
    rw [List.drop_append_of_le_length (by omega), List.take_append_of_le_length (by rw [List.length_drop]; omega), List.take_of_length_le (by rw [List.length_drop]; omega)]
  rw [h1, h2, List.append_assoc]
  have h3 : (acc.take p).length = p := by rw [List.length_take]; omega
  have := set_at (acc.take p) (acc.drop p) acc[p] e
  rw [h3] at this
  exact this
theorem put_end {acc : List El} {z e : El} : ((acc ++ [z]).set acc.length e) = acc.take acc.length ++ e :: acc.drop acc.length := by
  rw [List.take_length, List.drop_length]
  simp
theorem map_put {acc : List El} {l : List S39} {p : Nat} {e : El} (h : acc.map (·.1) = l) : (acc.take p ++ e :: acc.drop p).map (·.1) = l.take p ++ e.1 :: l.drop p := by
  subst h; simp [List.map_take, List.map_drop]
theorem R_some {W : World} {base n c : Nat} {ok : Nat → Prop} {A : Option Addr} {xs : List El} (h : kE.R 39 W base ok (.slice A n c) xs) (hx : 0 < xs.length) : ∃ ad : Addr, A = some ad ∧ ad = ⟨ad.block, 0, none⟩ ∧ n = xs.length ∧ xs.length ≤ c ∧ base ≤ ad.block ∧ ∃ cells, W.heap[ad.block]? = some (.cells cells 39 (0, 0)) := by
  obtain ⟨_, inner, ⟨hl, ho⟩, hr⟩ := h
  rcases ho with ⟨hv, hx0⟩ | ⟨g, cap, cur, hv, hb, hh, hnc, hcm, hcs, ht⟩
  · omega
  injection hv with h1 h2 h3
  subst h1 h3
  exact ⟨⟨g, 0, none⟩, rfl, rfl, h2, hnc, hb, cur, hh⟩
theorem elE {W : World} {base n c : Nat} {ok : Nat → Prop} {A : Option Addr} {xs : List El} (h : kE.R 39 W base ok (.slice A n c) xs) (k : Nat) (hk : k < xs.length) :
    ∃ ad e, A = some ad ∧ Aside0 (xs[k]? = some e) ∧ W.cell? (ad.add (k * 4)) = some (.string e.1.f0) ∧ W.cell? ⟨(ad.add (k * 4)).block, (ad.add (k * 4)).off + 1, none⟩ = some (.int .i64 e.1.f1) ∧ W.cell? ⟨(ad.add (k * 4)).block, (ad.add (k * 4)).off + 2, none⟩ = some (.int .i64 e.1.f2) ∧ W.cell? ⟨(ad.add (k * 4)).block, (ad.add (k * 4)).off + 3, none⟩ = some (.slice e.2.1 e.1.f3.length e.2.2) := by
  obtain ⟨ad, rfl, hz, rfl, hc, hb, _⟩ := R_some h (by omega)
  rw [hz] at h
  obtain ⟨cur, hh, _, hnc, hcm, hcs, ht, _, _⟩ := R_cells h
  refine ⟨ad, xs[k], rfl, ⟨List.getElem?_eq_getElem hk⟩, ?_⟩
  have key : ∀ j, j < 4 → W.cell? ⟨ad.block, k * 4 + j, none⟩ = (enE xs[k])[j]? := by
    intro j hj
    rw [blk_cell hh]
    have e1 : cur[k * 4 + j]? = (cur.toList.take (xs.length * 4))[k * 4 + j]? := by
      rw [List.getElem?_take_of_lt (by omega), Array.getElem?_toList]
    have e2 := (reps_flat xs W base ok).2 k xs[k] (List.getElem?_eq_getElem hk)
    have e3 : ((flat xs).drop (k * 4)).take 4 = enE xs[k] := e2
    rw [e1, ht, ← e3, List.getElem?_take_of_lt hj, List.getElem?_drop]
  have ha : ad.add (k * 4) = ⟨ad.block, k * 4, none⟩ := by rw [hz, addJ, Nat.zero_add]
  rw [ha]
  exact ⟨key 0 (by decide), key 1 (by decide), key 2 (by decide), key 3 (by decide)⟩
theorem lp_at {acc : List El} {lp : List S39} (h : acc.map (·.1) = lp) {j : Nat} {e : El} (he : acc[j]? = some e) : lp.getD j z39 = e.1 := by
  subst h
  rw [List.getD_eq_getElem?_getD, List.getElem?_map, he]; rfl
theorem posR_go {r : S39} {lp : List S39} {j : Nat} {y : S39} (hy : lp.getD j z39 = y) (h : cmpR r y < 0) : posR r lp (j + 1) = posR r lp j := by rw [posR, hy, if_pos h]
theorem posR_stop {r : S39} {lp : List S39} {j : Nat} {y : S39} (hy : lp.getD j z39 = y) (h : ¬ cmpR r y < 0) : posR r lp (j + 1) = j + 1 := by rw [posR, hy, if_neg h]
/-- copy as one step of a region that draws, by an equation of its run. -/
theorem step_copyE {P : Program} {ops : Array Oper} {o : Oper} {a : Act} {w : World} {K : Act → World → Prop} {Q : Exit → Act → World → Prop} {N : Option Tmp} (hN : o.dst = N) (hw : Region.wanted o (yielded ops a.tmps) = true) (d x : Operand) (dT sT : TypeId) (hop : o.op = .call { callee := .builtin .copy, args := #[d, x], argTypes := #[dT, sT] })
    (v u : Value) (hd : a.eval d = v) (hx : a.eval x = u) {v' : Value} {w' : World} (hr : (Builtin.copy_ #[dT, sT] o.type #[v, u]).run P w = .ok v' w') (hK : K (a.put N v') w') :
    if Region.wanted o (yielded ops a.tmps) = true then Oper.wp P o a w K Q else K (a.put N undef) w := by
  rw [if_pos hw]
  subst hN
  unfold Oper.wp
  simp [execOp, hop, resolve, invoke, builtin, hd, hx, hr, Result.andThen]
  exact hK
theorem below_grown {w W W2 : World} (h : Below w.heap.size w W) {row : Option Nat} (hg : W.grownBy W2 row) (hr : ∀ b, row = some b → w.heap.size ≤ b) : Below w.heap.size w W2 :=
  ⟨hg.os.trans h.os, hg.tape.trans h.tape, hg.output.trans h.output, Nat.le_trans h.size hg.size, fun k hk => by
    rw [hg.block k (by have := h.size; omega) (fun e => by have := hr k e.symm; omega)]; exact h.block k hk⟩
theorem elC {W : World} {base g n c : Nat} {ok : Nat → Prop} {xs : List El} (h : kE.R 39 W base ok (.slice (some ⟨g, 0, none⟩) n c) xs) (k : Nat) (hk : k < xs.length) : ∃ e0 : El, ∀ j u, (enE e0)[j]? = some u → W.cell? ⟨g, k * 4 + j, none⟩ = some u := by
  obtain ⟨cur, hh, _, hnc, hcm, hcs, ht, _, _⟩ := R_cells h
  refine ⟨xs[k], fun j u hu => ?_⟩
  have hj : j < 4 := by
    have := (List.getElem?_eq_some_iff.1 hu).1
    simpa [enE] using this
  rw [blk_cell hh]
  have e1 : cur[k * 4 + j]? = (cur.toList.take (xs.length * 4))[k * 4 + j]? := by
    rw [List.getElem?_take_of_lt (by omega), Array.getElem?_toList]
  have e3 : ((flat xs).drop (k * 4)).take 4 = enE xs[k] := (reps_flat xs W base ok).2 k xs[k] (List.getElem?_eq_getElem hk)
  rw [e1, ht, ← hu, ← e3, List.getElem?_take_of_lt hj, List.getElem?_drop]
theorem putR_at {acc : List El} {lp l : List S39} {k p : Nat} {r : S39} {e : El} (hlp : acc.map (·.1) = lp) (hM : lp = sortR (l.take k)) (hr : l[k]? = some r) (hp : posR r lp lp.length = p) (he : e.1 = r) : (acc.take p ++ e :: acc.drop p).map (·.1) = sortR (l.take (k + 1)) := by
  rw [sortR_snoc hr, ← hM, putR, hp, map_put hlp, he]
theorem mem_put {acc : List El} {e x : El} {p : Nat} (h : x ∈ acc.take p ++ e :: acc.drop p) : x ∈ acc ∨ x = e := by
  rcases List.mem_append.1 h with h | h
  · exact .inl (List.mem_of_mem_take h)
  · rcases List.mem_cons.1 h with h | h
    · exact .inr h
    · exact .inl (List.mem_of_mem_drop h)
theorem len_put {acc : List El} {e : El} {p : Nat} (h : p ≤ acc.length) : (acc.take p ++ e :: acc.drop p).length = acc.length + 1 := by
  rw [List.length_append, List.length_cons, List.length_take, List.length_drop]; omega
theorem info39s : (Try.prog.info? 39).map (·.size) = some 4 := by kernel_rfl
theorem adz {ad : Addr} (h : ad = ⟨ad.block, 0, none⟩) (n : Nat) : ad.add n = ⟨ad.block, n, none⟩ := by
  rw [h, addJ, Nat.zero_add]
set_option maxHeartbeats 2000000 in
set_option maxRecDepth 100000 in
theorem copyPairs_callsN (A : Option Addr) (c : Nat) (l : List S70) (w : World) (hr : Kd.C k70 w A l.length l) (hle : l.length ≤ 4398046510976) :
    Calls Try.prog 84 #[.slice A l.length c] w fun e w' => ∃ v, e = .returned v ∧ k70.R 70 w' w.heap.size (fun _ => True) v l ∧ Below w.heap.size w w' := by
  have hu70 := Try.underlying70
  go_enter Try.func84, Try.ntmps84
  go_wp2_with (at_builtin; refine Kd.R_append_rows k70 (Rr := k70.K w) (w0 := w) w.heap.size rfl (.const (.slice none 0 0)) (.tmp 3) 37 70 _ 32 rfl Try.underlying37 info70 rfl (by decide) (by decide) (.slice none 0 0) [] l A l.length c (fun _ => True) (fun _ => True) rfl rfl (Kd.R_nil _ _ _ _ _) hr (fun x cs hx => by obtain rfl := k70_open hx; exact k70_mkM _ _ _ _) (fun k _ => ⟨trivial, by simp [Value.ownBlock]⟩) (fun _ _ => trivial) (Below.refl _ _) (Nat.le_refl _) (by simp; omega) ?_; intro v1 w1 hown hb1 _ _)
  go_ret
  exact ⟨_, rfl, hown, hb1⟩
set_option maxHeartbeats 4000000 in
set_option maxRecDepth 100000 in
theorem copyRegion_callsN (A : Option Addr) (c : Nat) (x : S39) (d : Int) (w : World) (hr : Kd.C k70 w A x.f3.length x.f3) (hle : x.f3.length ≤ 4398046510976) (h1 : IntKind.i64.wrap (x.f1 + d) = x.f1 + d) (h2 : IntKind.i64.wrap (x.f2 + d) = x.f2 + d) :
    Calls Try.prog 54 #[.agg #[.string x.f0, .int .i64 x.f1, .int .i64 x.f2, .slice A x.f3.length c], .int .i64 d] w fun e w' => ∃ v, e = .returned (.agg #[.string x.f0, .int .i64 (x.f1 + d), .int .i64 (x.f2 + d), v]) ∧ k70.R 70 w' w.heap.size (fun _ => True) v x.f3 ∧ Below w.heap.size w w' := by
  have hu39 := Try.underlying39
  have HR := Aside0.mk hr
  clear hr
  have HX := Bx.refl w #[.string x.f0, .int .i64 x.f1, .int .i64 x.f2, .slice A x.f3.length c] 39
  have HB0 : Below w.heap.size w (w.alloc (.cells #[.string x.f0, .int .i64 x.f1, .int .i64 x.f2, .slice A x.f3.length c] 39)) := below_alloc (Below.refl _ _) _
  go_enter Try.func54, Try.ntmps54
  go_upto_region 1 with fail
  have hZ := blk_new (w.alloc (.cells #[.string x.f0, .int .i64 x.f1, .int .i64 x.f2, .slice A x.f3.length c] 39)) (.cells #[.string ⟨#[]⟩, .int .i64 0, .int .i64 0, .slice none 0 0] 39)
  rw [World.size_alloc] at hZ
  replace HX := HX.alloc (.cells #[.string ⟨#[]⟩, .int .i64 0, .int .i64 0, .slice none 0 0] 39)
  generalize (w.alloc (.cells #[.string x.f0, .int .i64 x.f1, .int .i64 x.f2, .slice A x.f3.length c] 39)).alloc (.cells #[.string ⟨#[]⟩, .int .i64 0, .int .i64 0, .slice none 0 0] 39) = W at HX hZ ⊢
  clear HB0
  have x0 := (HX.at_ 0).trans rfl
  have x1 := (HX.at_ 1).trans rfl
  have x2 := (HX.at_ 2).trans rfl
  have x3 := (HX.at_ 3).trans rfl
  have HS := bel_refl W
  have HSD := bel_drew HS
  go_region_held3 (fun w' => w'.cell? ⟨w.heap.size, 0, none⟩ = some (.string x.f0) ∧ w'.cell? ⟨w.heap.size, 1, none⟩ = some (.int .i64 x.f1) ∧ w'.cell? ⟨w.heap.size, 2, none⟩ = some (.int .i64 x.f2) ∧ w'.cell? ⟨w.heap.size, 3, none⟩ = some (.slice A x.f3.length c))
    (refine ⟨?_, ?_, ?_, ?_⟩ <;> first | (go_keep; done) | (refine pw_cell_below (w := W) (Aside0.out ?_) (by assumption); (repeat' (first | exact HS | with_reducible apply bel_drew | with_reducible apply bel_alloc | refine bel_step ?_ hb5)); done))
    (first | (go_at_call 84; refine (copyPairs_callsN A c x.f3 _ (Kd.C_below HR.out (below_step HX.below HSD.out)) hle).mono ?_; rintro e w5 ⟨v, rfl, hv, hb5⟩; obtain ⟨Av, cv, rfl⟩ := Kd.R_slice hv; have z5 := blk_cell (blk_below (blk_drew hZ) hb5); have zf := blk_frozen (blk_below (blk_drew hZ) hb5)))
  all_goals
    have hs5 := hb5.size
    have hsW : w.heap.size + 1 < W.heap.size := blk_lt hZ
    have hb9 : Below w.heap.size w ((((w5.setCell ⟨w.heap.size + 1, 0, none⟩ (.string x.f0)).setCell ⟨w.heap.size + 1, 1, none⟩ (.int .i64 (x.f1 + d))).setCell ⟨w.heap.size + 1, 2, none⟩ (.int .i64 (x.f2 + d))).setCell ⟨w.heap.size + 1, 3, none⟩ (.slice Av x.f3.length cv)) :=
      below_set (below_set (below_set (below_set (below_step (pw_below_drewN HX.below 1) hb5) (by omega)) (by omega)) (by omega)) (by omega)
    have hv9 := R_setB (R_setB (R_setB (R_setB hv (g := w.heap.size + 1) (j := 0) (by simp; omega) (.string x.f0)) (g := w.heap.size + 1) (j := 1) (by simp; omega) (.int .i64 (x.f1 + d))) (g := w.heap.size + 1) (j := 2) (by simp; omega) (.int .i64 (x.f2 + d))) (g := w.heap.size + 1) (j := 3) (by simp; omega) (.slice Av x.f3.length cv)
    have hz9 := blk_put (blk_set (blk_set (blk_set (blk_below (blk_drew hZ) hb5) 0 (.string x.f0)) 1 (.int .i64 (x.f1 + d))) 2 (.int .i64 (x.f2 + d))) 3 (.slice Av x.f3.length cv) (cs' := #[.string x.f0, .int .i64 (x.f1 + d), .int .i64 (x.f2 + d), .slice Av x.f3.length cv]) rfl
    generalize (((w5.setCell ⟨w.heap.size + 1, 0, none⟩ (.string x.f0)).setCell ⟨w.heap.size + 1, 1, none⟩ (.int .i64 (x.f1 + d))).setCell ⟨w.heap.size + 1, 2, none⟩ (.int .i64 (x.f2 + d))).setCell ⟨w.heap.size + 1, 3, none⟩ (.slice Av x.f3.length cv) = W9 at hb9 hv9 hz9 ⊢
    go_wp2_with fail
    (try simp only [Exit.inBlock, Exit.then])
    refine bodyPost_ret (results_cell_row rfl _ _ (w.heap.size + 1) 39 #[.string x.f0, .int .i64 (x.f1 + d), .int .i64 (x.f2 + d), .slice Av x.f3.length cv] (0, 0) _ rfl hz9 Try.underlying39 rfl (by kernel_rfl)) rfl ?_
    exact ⟨_, rfl, Kd.R_lower hv9 (by simp; omega), hb9⟩
set_option maxHeartbeats 16000000 in
set_option maxRecDepth 100000 in
theorem SortRegions_calls (A : Option Addr) (c : Nat) (l : List S39) (w : World) (hr : Kd.C k39 w A l.length l) (hle : l.length ≤ 2513169434843) (hpl : ∀ r ∈ l, r.f3.length ≤ 4398046510976) (hrng : ∀ r ∈ l, rng r.f1 ∧ rng r.f2) :
    Calls Try.prog 27 #[.slice A l.length c] w fun e w' => ∃ A' c', e = .returned (.slice A' l.length c') ∧ l.length ≤ c' ∧ k39.C w' A' l.length (sortR l) ∧ Below w.heap.size w w' := by
  have hu39 := Try.underlying39
  have HR := Aside0.mk hr
  have HPL := Aside0.mk hpl
  have HRG := Aside0.mk hrng
  clear hr hpl hrng
  go_enter Try.func27, Try.ntmps27
  go_wp2
  go_loopw [3, 9] (fun v i wr => ∃ (k : Nat) (acc : List El) (Av : Option Addr) (cv : Nat), k ≤ l.length ∧ i = .int .i64 k ∧ v = .slice Av acc.length cv ∧ Aside0 (acc.map (·.1) = sortR (l.take k)) ∧ Aside0 (acc.length = k) ∧ Aside0 (kE.R 39 wr w.heap.size (fun _ => True) (.slice Av acc.length cv) acc) ∧ Aside0 ((∀ e ∈ acc, Ke w wr e) ∧ ∀ e ∈ acc, e.1.f3.length ≤ e.2.2) ∧ Aside0 (Below w.heap.size w wr)) (fun _ i _ => l.length - (intOf i).toNat)
  case atStart => exact ⟨0, [], none, 0, Nat.zero_le _, rfl, rfl, ⟨rfl⟩, ⟨rfl⟩, ⟨Kd.R_nil _ _ _ _ _⟩, ⟨⟨fun _ he => (List.not_mem_nil he).elim, fun _ he => (List.not_mem_nil he).elim⟩⟩, bel_refl _⟩
  case round =>
    rename World => W1
    obtain ⟨k, acc, Av, cv, hk, rfl, rfl, HM, HL, HROW, HKE, HB⟩ := hrel
    by_cases hlt : k < l.length
    · obtain ⟨ad, r, Ar, cr, rfl, -, hrr, q0, q1, q2, q3, lr, gr⟩ := el39 HR HB k hlt
      have hmem := List.mem_of_getElem? hrr.out
      have hal : acc.length + 1 ≤ 2513169434843 := by have := HL.out; omega
      have hrl := HPL.out r hmem
      have hrg := HRG.out r hmem
      go_upto_block 2 with fail
      have Bb := blk_new W1 (.cells #[.string r.f0, .int .i64 r.f1, .int .i64 r.f2, .slice Ar r.f3.length cr] 39)
      have HA := below_alloc (Below.refl W1.heap.size W1) (.cells #[.string r.f0, .int .i64 r.f1, .int .i64 r.f2, .slice Ar r.f3.length cr] 39)
      have HBU := below_step HB.out HA
      have HRU := Kd.R_below HROW.out HA
      have HKU : Aside0 (∀ e ∈ acc, Ke w (W1.alloc (.cells #[.string r.f0, .int .i64 r.f1, .int .i64 r.f2, .slice Ar r.f3.length cr] 39)) e) := ⟨fun e he => (HKE.out.1 e he).below HA⟩
      have hgw : w.heap.size ≤ W1.heap.size := HB.out.size
      generalize W1.alloc (.cells #[.string r.f0, .int .i64 r.f1, .int .i64 r.f2, .slice Ar r.f3.length cr] 39) = U at Bb HBU HRU HKU ⊢
      have hlt0 : ∀ b, (Value.slice Av acc.length cv).ownBlock = some b → b < W1.heap.size := (Kd.R_own HROW.out).elim fun _ h => own_lt h
      generalize W1.heap.size = gb at Bb hgw hlt0 ⊢
      clear HA HB HROW q0 q1 q2 q3
      have HU := bel_refl U
      generalize hlp : acc.map (·.1) = lp at HM
      replace hlp := Aside0.mk hlp
      have hacl : acc.length = lp.length := by rw [← hlp.out, List.length_map]
      have HACL := Aside0.mk hacl
      clear hacl
      go_wp2
      go_loopw [6] (fun t wr => ∃ i : Nat, i ≤ acc.length ∧ t = .int .i64 i ∧ Aside0 (posR r lp lp.length = posR r lp i) ∧ Aside0 (Below U.heap.size U wr)) (fun t _ => (intOf t).toNat)
      case atStart => exact ⟨acc.length, Nat.le_refl _, rfl, ⟨by rw [HACL.out]⟩, HU⟩
      case round =>
        rename World => W2
        obtain ⟨i, hi, rfl, HP, HB2⟩ := hrel
        have HRW := Kd.R_below HRU HB2.out
        have HKW : Aside0 (∀ e ∈ acc, Ke w W2 e) := ⟨fun e he => (HKU.out e he).below HB2.out⟩
        have BbW := blk_below Bb HB2.out
        cases i with
        | zero =>
          go_wp2
          refine start_ (n := 12) (S := fun w' => True) (ds := []) #[false, false, false, false, false, false, false, false, false, false, false, false] (by kernel_rfl) rfl rfl trivial (fun hHeld => ?_)
          refine pure_ (i := 0) (N := some 15) (v := ?_) (a' := ?_) #[true, false, false, false, false, false, false, false, false, false, false, false] rfl rfl (by kernel_rfl) (fun _ _ _ h => h) (Or.inl ⟨by rfl, ?_⟩) ?_ ?_
          rotate_left
          · intro w'
            go_simp
            with_reducible rfl
          rotate_left
          · simp only [Act.put, List.setIfInBounds_toArray, List.set_cons_zero, List.set_cons_succ]
            rfl
          refine pure_ (i := 1) (N := some 16) (v := ?_) (a' := ?_) #[true, true, false, false, false, false, false, false, false, false, false, false] rfl rfl (by kernel_rfl) (fun _ _ _ h => h) (Or.inl ⟨by rfl, ?_⟩) ?_ ?_
          rotate_left
          · intro w'
            go_simp
            with_reducible rfl
          rotate_left
          · simp only [Act.put, List.setIfInBounds_toArray, List.set_cons_zero, List.set_cons_succ]
            rfl
          refine pure_ (i := 2) (N := some 17) (v := ?_) (a' := ?_) #[true, true, true, false, false, false, false, false, false, false, false, false] rfl rfl (by kernel_rfl) (fun _ _ _ h => h) (Or.inl ⟨by rfl, ?_⟩) ?_ ?_
          rotate_left
          · intro w'
            go_simp
            with_reducible rfl
          rotate_left
          · simp only [Act.put, List.setIfInBounds_toArray, List.set_cons_zero, List.set_cons_succ]
            rfl
          refine pure_ (i := 3) (N := some 18) (v := undef) (a' := ?_) #[true, true, true, true, false, false, false, false, false, false, false, false] rfl rfl (by kernel_rfl) (fun _ _ _ h => h) (Or.inr ⟨by rfl, rfl⟩) ?_ ?_
          rotate_left
          · simp only [Act.put, List.setIfInBounds_toArray, List.set_cons_zero, List.set_cons_succ]
            rfl
          refine pure_ (i := 4) (N := some 19) (v := undef) (a' := ?_) #[true, true, true, true, true, false, false, false, false, false, false, false] rfl rfl (by kernel_rfl) (fun _ _ _ h => h) (Or.inr ⟨by rfl, rfl⟩) ?_ ?_
          rotate_left
          · simp only [Act.put, List.setIfInBounds_toArray, List.set_cons_zero, List.set_cons_succ]
            rfl
          refine pure_ (i := 5) (N := some 20) (v := undef) (a' := ?_) #[true, true, true, true, true, true, false, false, false, false, false, false] rfl rfl (by kernel_rfl) (fun _ _ _ h => h) (Or.inr ⟨by rfl, rfl⟩) ?_ ?_
          rotate_left
          · simp only [Act.put, List.setIfInBounds_toArray, List.set_cons_zero, List.set_cons_succ]
            rfl
          refine pure_ (i := 6) (N := some 21) (v := undef) (a' := ?_) #[true, true, true, true, true, true, true, false, false, false, false, false] rfl rfl (by kernel_rfl) (fun _ _ _ h => h) (Or.inr ⟨by rfl, rfl⟩) ?_ ?_
          rotate_left
          · simp only [Act.put, List.setIfInBounds_toArray, List.set_cons_zero, List.set_cons_succ]
            rfl
          refine pure_ (i := 7) (N := some 22) (v := undef) (a' := ?_) #[true, true, true, true, true, true, true, true, false, false, false, false] rfl rfl (by kernel_rfl) (fun _ _ _ h => h) (Or.inr ⟨by rfl, rfl⟩) ?_ ?_
          rotate_left
          · simp only [Act.put, List.setIfInBounds_toArray, List.set_cons_zero, List.set_cons_succ]
            rfl
          refine pure_ (i := 8) (N := some 23) (v := undef) (a' := ?_) #[true, true, true, true, true, true, true, true, true, false, false, false] rfl rfl (by kernel_rfl) (fun _ _ _ h => h) (Or.inr ⟨by rfl, rfl⟩) ?_ ?_
          rotate_left
          · simp only [Act.put, List.setIfInBounds_toArray, List.set_cons_zero, List.set_cons_succ]
            rfl
          refine pure_ (i := 9) (N := some 24) (v := undef) (a' := ?_) #[true, true, true, true, true, true, true, true, true, true, false, false] rfl rfl (by kernel_rfl) (fun _ _ _ h => h) (Or.inr ⟨by rfl, rfl⟩) ?_ ?_
          rotate_left
          · simp only [Act.put, List.setIfInBounds_toArray, List.set_cons_zero, List.set_cons_succ]
            rfl
          refine pure_ (i := 10) (N := some 25) (v := undef) (a' := ?_) #[true, true, true, true, true, true, true, true, true, true, true, false] rfl rfl (by kernel_rfl) (fun _ _ _ h => h) (Or.inr ⟨by rfl, rfl⟩) ?_ ?_
          rotate_left
          · simp only [Act.put, List.setIfInBounds_toArray, List.set_cons_zero, List.set_cons_succ]
            rfl
          refine pure_ (i := 11) (N := some 26) (v := ?_) (a' := ?_) #[true, true, true, true, true, true, true, true, true, true, true, true] rfl rfl (by kernel_rfl) (fun _ _ _ h => h) (Or.inl ⟨by rfl, ?_⟩) ?_ ?_
          rotate_left
          · intro w'
            go_simp
            with_reducible rfl
          rotate_left
          · simp only [Act.put, List.setIfInBounds_toArray, List.set_cons_zero, List.set_cons_succ]
            rfl
          refine done_ (by kernel_rfl) ?_
          have HB3 : Below U.heap.size U W2.drew := below_step HB2.out (pw_below_drewN (Below.refl _ _) 1)
          have HPos : Aside0 (posR r lp lp.length = 0) := HP
          clear HRW HKW BbW HB2 HP
          generalize W2.drew = W3 at HB3 ⊢
          have HR3 := Kd.R_below HRU HB3
          have HK3 : Aside0 (∀ e ∈ acc, Ke w W3 e) := ⟨fun e he => (HKU.out e he).below HB3⟩
          have Bb3 := blk_below Bb HB3
          have HBW3 := below_step HBU HB3
          have hty : ∀ g, (Value.slice Av acc.length cv).ownBlock = some g → w.heap.size ≤ g ∧ ∃ cells, W3.heap[g]? = some (.cells cells 39 (0, 0)) := (Kd.R_own HR3).elim fun _ h g hg => ⟨own_base h g hg, own_typed h g hg⟩
          have hws3 := HBW3.size
          go_wp2_with (at_builtin; refine Kd.R_append kE (w0 := W3) (W := W3) w.heap.size rfl (.tmp 29) (.tmp 31) 25 39 _ 56 rfl Try.underlying25 info39 rfl (by decide) (by decide) (.slice Av acc.length cv) acc (z39, none, 0) (enE (z39, none, 0)) (fun _ => True) (fun k => some k ≠ (Value.slice Av acc.length cv).ownBlock) rfl rfl rfl (fun _ h => ⟨trivial, h⟩) (fun _ _ => trivial) HR3 (Below.refl _ _) hws3 (by omega) ?_; intro v4 W4 hR4 _ hg4 hat4; generalize hac : acc ++ [(z39, none, 0)] = ac4 at hR4; replace hac := Aside0.mk hac; obtain ⟨A4, c4, rfl⟩ := Kd.R_slice hR4)
          have hl4 : ac4.length = acc.length + 1 := by rw [← hac.out]; simp
          have HL4 := Aside0.mk hl4
          obtain ⟨ad4, rfl, hz4, -, hc4, hb4, ⟨cells4, hh4⟩⟩ := R_some hR4 (by omega)
          have HZ4 := Aside0.mk hz4
          have HK4 : Aside0 (∀ e ∈ acc, Ke w W4 e) := ⟨fun e he => (HK3.out e he).grown hg4 hty⟩
          have Bb4 := (hg4.block gb (blk_lt Bb3) (fun e => by have := hlt0 gb e.symm; omega)).trans Bb3
          have HBW4 := below_grown HBW3 hg4 (fun b hb => (hty b hb).1)
          have hgne : gb ≠ ad4.block := by
            rcases hat4 with h | ⟨b, h, hb⟩
            · have := hlt0 ad4.block h.symm; omega
            · have e1 : ad4.block = b := by simpa [Value.ownBlock] using h
              have := blk_lt Bb3; omega
          clear hat4 hz4 HR3 HK3 Bb3 HBW3 hty hg4 HB3 HRU HKU Bb HBU hlt0
          have hp4 : 0 ≤ acc.length := by omega
          have nP : Aside0 (Go.RowKit.wrap64 (1 : Int) = (1 : Int)) := ⟨by rw [← i64_w]; exact IntWalk.i64_in _ (by omega)⟩
          have hs0 : 0 ≤ (1 : Int) := by omega
          have hs1 : (1 : Int) ≤ (ac4.length : Int) := by omega
          have hs2 : (0 : Int) ≤ (ac4.length : Int) := by omega
          have hs4 : (0 : Int) ≤ 0 := by omega
          have hs3 : (0 : Int) ≤ (ac4.length : Int) := by omega
          clear hl4
          by_cases hend : 0 = acc.length
          · have HEND := Aside0.mk hend
            clear hend
            have HR5 := Kd.R_below hR4 (pw_below_drewN (Below.refl _ _) 1 : Below W4.heap.size W4 (W4.drewN 1))
            change Kd.R _ _ W4.drew _ _ _ _ at HR5
            refine start_ (n := 8) (S := fun w' => True) (ds := []) #[false, false, false, false, false, false, false, false] (by kernel_rfl) rfl rfl trivial (fun hHeld => ?_)
            refine pure_ (i := 0) (N := some 33) (v := ?_) (a' := ?_) #[true, false, false, false, false, false, false, false] rfl rfl (by kernel_rfl) (fun _ _ _ h => h) (Or.inl ⟨by rfl, ?_⟩) ?_ ?_
            rotate_left
            · intro w'
              go_simp
              with_reducible rfl
            rotate_left
            · simp only [Act.put, List.setIfInBounds_toArray, List.set_cons_zero, List.set_cons_succ]
              rfl
            refine pure_ (i := 1) (N := some 34) (v := ?_) (a' := ?_) #[true, true, false, false, false, false, false, false] rfl rfl (by kernel_rfl) (fun _ _ _ h => h) (Or.inl ⟨by rfl, ?_⟩) ?_ ?_
            rotate_left
            · intro w'
              go_simp
              with_reducible rfl
            rotate_left
            · simp only [Act.put, List.setIfInBounds_toArray, List.set_cons_zero, List.set_cons_succ]
              rfl
            refine pure_ (i := 2) (N := some 35) (v := ?_) (a' := ?_) #[true, true, true, false, false, false, false, false] rfl rfl (by kernel_rfl) (fun _ _ _ h => h) (Or.inl ⟨by rfl, ?_⟩) ?_ ?_
            rotate_left
            · intro w'
              go_simp
              with_reducible rfl
            rotate_left
            · simp only [Act.put, List.setIfInBounds_toArray, List.set_cons_zero, List.set_cons_succ, i64_w, nP.out]
              rfl
            refine pure_ (i := 3) (N := some 36) (v := ?_) (a' := ?_) #[true, true, true, true, false, false, false, false] rfl rfl (by kernel_rfl) (fun _ _ _ h => h) (Or.inl ⟨by rfl, ?_⟩) ?_ ?_
            rotate_left
            · intro w'
              go_simp
              with_reducible rfl
            rotate_left
            · simp only [Act.put, List.setIfInBounds_toArray, List.set_cons_zero, List.set_cons_succ]
              rfl
            refine pure_ (i := 4) (N := some 37) (v := ?_) (a' := ?_) #[true, true, true, true, true, false, false, false] rfl rfl (by kernel_rfl) (fun _ _ _ h => h) (Or.inl ⟨by rfl, ?_⟩) ?_ ?_
            rotate_left
            · intro w'
              go_simp
              with_reducible rfl
            rotate_left
            · simp only [Act.put, List.setIfInBounds_toArray, List.set_cons_zero, List.set_cons_succ]
              rfl
            refine pure_ (i := 5) (N := some 38) (v := ?_) (a' := ?_) #[true, true, true, true, true, true, false, false] rfl rfl (by kernel_rfl) (fun _ _ _ h => h) (Or.inl ⟨by rfl, ?_⟩) ?_ ?_
            rotate_left
            · intro w'
              go_simp
              with_reducible rfl
            rotate_left
            · simp only [Act.put, List.setIfInBounds_toArray, List.set_cons_zero, List.set_cons_succ]
              rfl
            refine pure_ (i := 6) (N := some 39) (v := ?_) (a' := ?_) #[true, true, true, true, true, true, true, false] rfl rfl (by kernel_rfl) (fun _ _ _ h => h) (Or.inl ⟨by rfl, ?_⟩) ?_ ?_
            rotate_left
            · intro w'
              go_simp
              with_reducible rfl
            rotate_left
            · simp only [Act.put, List.setIfInBounds_toArray, List.set_cons_zero, List.set_cons_succ]
              rfl
            refine one_ (i := 7) (N := some 40) #[true, true, true, true, true, true, true, true] rfl rfl (by kernel_rfl) (by decide) (fun K hK => ?_)
            refine step_copyE rfl rfl (.tmp 36) (.tmp 39) 25 25 rfl _ _ rfl rfl (run_copy4_none W4.drew 25 25 _ 39 _ _ _ _ _ _ Try.underlying25 info39s (by have := HL4.out; have := HEND.out; show min _ _ = 0; omega)) ?_
            refine hK.out _ _ trivial (fun hHeld => ?_)
            clear hK K
            refine norm_ (a' := ?_) ?_ ?_
            rotate_left
            · show Act.put _ (some 40) _ = _
              simp only [Act.put, List.setIfInBounds_toArray, List.set_cons_zero, List.set_cons_succ]
              rfl
            refine done_ (by kernel_rfl) ?_
            have HS5 : Aside0 (∀ e' : El, ac4.set 0 e' = acc.take 0 ++ e' :: acc.drop 0) := ⟨fun e' => by have h := @put_end acc (z39, none, 0) e'; rw [hac.out, ← HEND.out] at h; exact h⟩
            have HK5 : Aside0 (∀ e ∈ acc, Ke w W4.drew e) := ⟨fun e he => (HK4.out e he).below (pw_below_drewN (Below.refl _ _) 1)⟩
            have Bb5 := blk_drew Bb4
            have HBW5 : Below w.heap.size w W4.drew := below_step HBW4 (pw_below_drewN (Below.refl _ _) 1)
            have HT5 : ∃ cells, W4.drew.heap[ad4.block]? = some (.cells cells 39 (0, 0)) := ⟨cells4, blk_drew hh4⟩
            generalize W4.drew = W5 at HR5 HK5 Bb5 HBW5 HT5 ⊢
            have HL5 : Aside0 (ac4.length = acc.length + 1) := HL4
            obtain ⟨L5, hL5⟩ : ∃ L5, L5 = ac4 := ⟨_, rfl⟩
            rw [← hL5] at HR5 HS5 HL5
            clear hL5
            have HR5' : kE.R 39 W5 w.heap.size (fun _ => True) (.slice (some ⟨ad4.block, 0, none⟩) (acc.length + 1) c4) L5 := by
              rw [HL5.out] at HR5
              exact HZ4.out ▸ HR5
            generalize (if c4 = 1 then some ad4 else some ⟨ad4.block, ad4.off + 4, none⟩) = X36
            obtain ⟨e0, he0⟩ := elC HR5' 0 (by have := HL5.out; omega)
            have HE0 := Aside0.mk he0
            clear he0
            have hs5 : (0 : Int) < (ac4.length : Int) := by have := HL4.out; omega
            have bx0 := (blk_cell Bb5 0).trans rfl
            have bx1 := (blk_cell Bb5 1).trans rfl
            have bx2 := (blk_cell Bb5 2).trans rfl
            have bx3 := (blk_cell Bb5 3).trans rfl
            have hcn := copyRegion_callsN Ar cr r 0 W5 (Kd.C_below gr.out HBW5) (by omega) (IntWalk.i64_in _ (by have := hrg.1; unfold rng at hrg; omega)) (IntWalk.i64_in _ (by unfold rng at hrg; omega))
            simp only [Int.add_zero] at hcn
            have HCN := Aside0.mk hcn
            clear hcn
            go_wp2_with (first | (go_at_call 54; refine HCN.out.mono ?_; rintro ee W6 ⟨v6, rfl, hR6k, hb6⟩; obtain ⟨A6, c6, rfl⟩ := Kd.R_slice hR6k) | (refine gate_ (.store 39 (.tmp 45) (.tmp 44)) rfl ?_; refine Kd.R_store kE (w0 := W6) (W := W6) w.heap.size rfl rfl 39 (.tmp 45) (.tmp 44) rfl 39 (g := ad4.block) (n := acc.length + 1) (cap := c4) (o' := 0 * 4) ((0 : Nat) : Int) 0 L5 (r, A6, c6) (.agg (enE (r, A6, c6)).toArray) (enE (r, A6, c6)) (enE e0) (fun _ => True) (fun _ => False) (by first | (show Value.pointer (some (ad4.add (0 * 4))) = _; rw [adz HZ4.out]) | (show Value.pointer (some ad4) = _; rw [Nat.zero_mul, ← HZ4.out])) (by simp [kE]) rfl rfl info39s (fun q hq => kE.K_one (w := W6) (x := (r, A6, c6)) rfl q hq) (Kd.R_below HR5' hb6) (by omega) (by omega) rfl (fun j u hu => pw_cell_below hb6 (by simpa [kE] using HE0.out j u hu)) (by simp [kE, enE]) rfl (fun _ h => h.elim) (Below.refl _ _) ?_; intro W7 hR7 _ hg7))
            obtain ⟨cells6, hT6⟩ := HT5
            have HT6 := blk_below hT6 hb6
            have HROWG : ∀ g, some ad4.block = some g → w.heap.size ≤ g ∧ ∃ cells, W6.heap[g]? = some (.cells cells 39 (0, 0)) := fun g hg => by obtain rfl := Option.some.inj hg; exact ⟨hb4, cells6, HT6⟩
            have HKN : ∀ x ∈ acc.take 0 ++ (r, A6, c6) :: acc.drop 0, Ke w W7 x := fun x hx => (mem_put hx).elim (fun h => ((HK5.out x h).below hb6).grown hg7 HROWG) (fun h => by subst h; exact (Ke.made (e := (r, A6, c6)) hR6k).grown hg7 HROWG)
            have HLN : ∀ x ∈ acc.take 0 ++ (r, A6, c6) :: acc.drop 0, x.1.f3.length ≤ x.2.2 := fun x hx => (mem_put hx).elim (fun h => HKE.out.2 x h) (fun h => by subst h; exact (R_CK hR6k).1)
            have HBN := below_grown (below_step HBW5 hb6) hg7 (fun b hb => (HROWG b hb).1)
            have HRN : kE.R 39 W7 w.heap.size (fun _ => True) (.slice (some ad4) (acc.take 0 ++ (r, A6, c6) :: acc.drop 0).length c4) (acc.take 0 ++ (r, A6, c6) :: acc.drop 0) := by
              have h := hR7
              rw [Int.toNat_natCast, HS5.out, ← len_put (e := (r, A6, c6)) hp4, ← HZ4.out] at h
              exact h
            exact ⟨⟨k + 1, acc.take 0 ++ (r, A6, c6) :: acc.drop 0, some ad4, c4, by omega, by go_num, by rw [len_put hp4, HL4.out], ⟨putR_at hlp.out HM.out hrr.out HPos.out rfl⟩, ⟨by rw [len_put hp4, HL.out]⟩, ⟨HRN⟩, ⟨⟨HKN, HLN⟩⟩, ⟨HBN⟩⟩, by simp [intOf] <;> omega⟩
          · have HEND := Aside0.mk hend
            clear hend
            have HR5 := Kd.R_below hR4 (pw_below_drewN (Below.refl _ _) 1 : Below W4.heap.size W4 (W4.drewN 1))
            change Kd.R _ _ W4.drew _ _ _ _ at HR5
            have hz4 := HZ4.out
            have hl4 := HL4.out
            have hpn : 0 < acc.length := by have := HEND.out; omega
            have HR5' := HR5
            rw [hl4, hz4] at HR5'
            obtain ⟨W5, hrun, HR6, hg5⟩ := run_shift (p := 0) (n := acc.length) (ty := 3) HR5' hpn Try.underlying25 info39s (c4 - 1) c4
            have hv1 : (Value.slice (if c4 = 1 then some ad4 else some ⟨ad4.block, ad4.off + 4, none⟩) (ac4.length - 1) (c4 - 1)) = .slice (some ⟨ad4.block, (0 + 1) * 4, none⟩) (acc.length - 0) (c4 - 1) := by
              rw [if_neg (by omega), hl4]
              rw [hz4]; simp
            have hv2 : (Value.slice (some ad4) ac4.length c4) = .slice (some ⟨ad4.block, 0 * 4, none⟩) (acc.length + 1 - 0) c4 := by
              rw [hz4, hl4]; simp
            have HV1 := Aside0.mk hv1
            have HV2 := Aside0.mk hv2
            have HPN := Aside0.mk hpn
            clear hz4 hl4 HR5' hv1 hv2 hpn
            refine start_ (n := 8) (S := fun w' => True) (ds := []) #[false, false, false, false, false, false, false, false] (by kernel_rfl) rfl rfl trivial (fun hHeld => ?_)
            refine pure_ (i := 0) (N := some 33) (v := ?_) (a' := ?_) #[true, false, false, false, false, false, false, false] rfl rfl (by kernel_rfl) (fun _ _ _ h => h) (Or.inl ⟨by rfl, ?_⟩) ?_ ?_
            rotate_left
            · intro w'
              go_simp
              with_reducible rfl
            rotate_left
            · simp only [Act.put, List.setIfInBounds_toArray, List.set_cons_zero, List.set_cons_succ]
              rfl
            refine pure_ (i := 1) (N := some 34) (v := ?_) (a' := ?_) #[true, true, false, false, false, false, false, false] rfl rfl (by kernel_rfl) (fun _ _ _ h => h) (Or.inl ⟨by rfl, ?_⟩) ?_ ?_
            rotate_left
            · intro w'
              go_simp
              with_reducible rfl
            rotate_left
            · simp only [Act.put, List.setIfInBounds_toArray, List.set_cons_zero, List.set_cons_succ]
              rfl
            refine pure_ (i := 2) (N := some 35) (v := ?_) (a' := ?_) #[true, true, true, false, false, false, false, false] rfl rfl (by kernel_rfl) (fun _ _ _ h => h) (Or.inl ⟨by rfl, ?_⟩) ?_ ?_
            rotate_left
            · intro w'
              go_simp
              with_reducible rfl
            rotate_left
            · simp only [Act.put, List.setIfInBounds_toArray, List.set_cons_zero, List.set_cons_succ, i64_w, nP.out]
              rfl
            refine pure_ (i := 3) (N := some 36) (v := ?_) (a' := ?_) #[true, true, true, true, false, false, false, false] rfl rfl (by kernel_rfl) (fun _ _ _ h => h) (Or.inl ⟨by rfl, ?_⟩) ?_ ?_
            rotate_left
            · intro w'
              go_simp
              with_reducible rfl
            rotate_left
            · simp only [Act.put, List.setIfInBounds_toArray, List.set_cons_zero, List.set_cons_succ]
              rfl
            refine pure_ (i := 4) (N := some 37) (v := ?_) (a' := ?_) #[true, true, true, true, true, false, false, false] rfl rfl (by kernel_rfl) (fun _ _ _ h => h) (Or.inl ⟨by rfl, ?_⟩) ?_ ?_
            rotate_left
            · intro w'
              go_simp
              with_reducible rfl
            rotate_left
            · simp only [Act.put, List.setIfInBounds_toArray, List.set_cons_zero, List.set_cons_succ]
              rfl
            refine pure_ (i := 5) (N := some 38) (v := ?_) (a' := ?_) #[true, true, true, true, true, true, false, false] rfl rfl (by kernel_rfl) (fun _ _ _ h => h) (Or.inl ⟨by rfl, ?_⟩) ?_ ?_
            rotate_left
            · intro w'
              go_simp
              with_reducible rfl
            rotate_left
            · simp only [Act.put, List.setIfInBounds_toArray, List.set_cons_zero, List.set_cons_succ]
              rfl
            refine pure_ (i := 6) (N := some 39) (v := ?_) (a' := ?_) #[true, true, true, true, true, true, true, false] rfl rfl (by kernel_rfl) (fun _ _ _ h => h) (Or.inl ⟨by rfl, ?_⟩) ?_ ?_
            rotate_left
            · intro w'
              go_simp
              with_reducible rfl
            rotate_left
            · simp only [Act.put, List.setIfInBounds_toArray, List.set_cons_zero, List.set_cons_succ]
              rfl
            refine one_ (i := 7) (N := some 40) #[true, true, true, true, true, true, true, true] rfl rfl (by kernel_rfl) (by decide) (fun K hK => ?_)
            refine step_copyE rfl rfl (.tmp 36) (.tmp 39) 25 25 rfl _ _ HV1.out HV2.out hrun ?_
            refine hK.out _ _ trivial (fun hHeld => ?_)
            clear hK K
            refine norm_ (a' := ?_) ?_ ?_
            rotate_left
            · show Act.put _ (some 40) _ = _
              simp only [Act.put, List.setIfInBounds_toArray, List.set_cons_zero, List.set_cons_succ]
              rfl
            refine done_ (by kernel_rfl) ?_
            have HS5 : Aside0 (∀ e' : El, (ac4.take (0 + 1) ++ (ac4.drop 0).take (acc.length - 0)).set 0 e' = acc.take 0 ++ e' :: acc.drop 0) := ⟨fun e' => by rw [← hac.out]; exact put_at HPN.out⟩
            have HK5 : Aside0 (∀ e ∈ acc, Ke w W5 e) := ⟨fun e he => ((HK4.out e he).below (pw_below_drewN (Below.refl _ _) 1)).grown hg5 (fun g hg => by obtain rfl := Option.some.inj hg; exact ⟨hb4, cells4, blk_drew hh4⟩)⟩
            have Bb5 := (hg5.block gb (blk_lt (blk_drew Bb4)) (fun e => hgne (Option.some.inj e))).trans (blk_drew Bb4)
            have HBW5 := below_grown (below_step HBW4 (pw_below_drewN (Below.refl W4.heap.size W4) 1)) hg5 (fun b hb => by obtain rfl := Option.some.inj hb; exact hb4)
            have HL5 : Aside0 ((ac4.take (0 + 1) ++ (ac4.drop 0).take (acc.length - 0)).length = acc.length + 1) := ⟨by rw [List.length_append, List.length_take, List.length_take, List.length_drop, HL4.out]; have := HPN.out; omega⟩
            generalize hL5 : ac4.take (0 + 1) ++ (ac4.drop 0).take (acc.length - 0) = L5 at HR6 HS5 HL5
            clear hL5
            have HR5' := HR6
            have HT5 : ∃ cells, W5.heap[ad4.block]? = some (.cells cells 39 (0, 0)) := by obtain ⟨cur, h, _⟩ := R_cells HR6; exact ⟨cur, h⟩
            generalize (if c4 = 1 then some ad4 else some ⟨ad4.block, ad4.off + 4, none⟩) = X36
            obtain ⟨e0, he0⟩ := elC HR5' 0 (by have := HL5.out; omega)
            have HE0 := Aside0.mk he0
            clear he0
            have hs5 : (0 : Int) < (ac4.length : Int) := by have := HL4.out; omega
            have bx0 := (blk_cell Bb5 0).trans rfl
            have bx1 := (blk_cell Bb5 1).trans rfl
            have bx2 := (blk_cell Bb5 2).trans rfl
            have bx3 := (blk_cell Bb5 3).trans rfl
            have hcn := copyRegion_callsN Ar cr r 0 W5 (Kd.C_below gr.out HBW5) (by omega) (IntWalk.i64_in _ (by have := hrg.1; unfold rng at hrg; omega)) (IntWalk.i64_in _ (by unfold rng at hrg; omega))
            simp only [Int.add_zero] at hcn
            have HCN := Aside0.mk hcn
            clear hcn
            go_wp2_with (first | (go_at_call 54; refine HCN.out.mono ?_; rintro ee W6 ⟨v6, rfl, hR6k, hb6⟩; obtain ⟨A6, c6, rfl⟩ := Kd.R_slice hR6k) | (refine gate_ (.store 39 (.tmp 45) (.tmp 44)) rfl ?_; refine Kd.R_store kE (w0 := W6) (W := W6) w.heap.size rfl rfl 39 (.tmp 45) (.tmp 44) rfl 39 (g := ad4.block) (n := acc.length + 1) (cap := c4) (o' := 0 * 4) ((0 : Nat) : Int) 0 L5 (r, A6, c6) (.agg (enE (r, A6, c6)).toArray) (enE (r, A6, c6)) (enE e0) (fun _ => True) (fun _ => False) (by first | (show Value.pointer (some (ad4.add (0 * 4))) = _; rw [adz HZ4.out]) | (show Value.pointer (some ad4) = _; rw [Nat.zero_mul, ← HZ4.out])) (by simp [kE]) rfl rfl info39s (fun q hq => kE.K_one (w := W6) (x := (r, A6, c6)) rfl q hq) (Kd.R_below HR5' hb6) (by omega) (by omega) rfl (fun j u hu => pw_cell_below hb6 (by simpa [kE] using HE0.out j u hu)) (by simp [kE, enE]) rfl (fun _ h => h.elim) (Below.refl _ _) ?_; intro W7 hR7 _ hg7))
            obtain ⟨cells6, hT6⟩ := HT5
            have HT6 := blk_below hT6 hb6
            have HROWG : ∀ g, some ad4.block = some g → w.heap.size ≤ g ∧ ∃ cells, W6.heap[g]? = some (.cells cells 39 (0, 0)) := fun g hg => by obtain rfl := Option.some.inj hg; exact ⟨hb4, cells6, HT6⟩
            have HKN : ∀ x ∈ acc.take 0 ++ (r, A6, c6) :: acc.drop 0, Ke w W7 x := fun x hx => (mem_put hx).elim (fun h => ((HK5.out x h).below hb6).grown hg7 HROWG) (fun h => by subst h; exact (Ke.made (e := (r, A6, c6)) hR6k).grown hg7 HROWG)
            have HLN : ∀ x ∈ acc.take 0 ++ (r, A6, c6) :: acc.drop 0, x.1.f3.length ≤ x.2.2 := fun x hx => (mem_put hx).elim (fun h => HKE.out.2 x h) (fun h => by subst h; exact (R_CK hR6k).1)
            have HBN := below_grown (below_step HBW5 hb6) hg7 (fun b hb => (HROWG b hb).1)
            have HRN : kE.R 39 W7 w.heap.size (fun _ => True) (.slice (some ad4) (acc.take 0 ++ (r, A6, c6) :: acc.drop 0).length c4) (acc.take 0 ++ (r, A6, c6) :: acc.drop 0) := by
              have h := hR7
              rw [Int.toNat_natCast, HS5.out, ← len_put (e := (r, A6, c6)) hp4, ← HZ4.out] at h
              exact h
            exact ⟨⟨k + 1, acc.take 0 ++ (r, A6, c6) :: acc.drop 0, some ad4, c4, by omega, by go_num, by rw [len_put hp4, HL4.out], ⟨putR_at hlp.out HM.out hrr.out HPos.out rfl⟩, ⟨by rw [len_put hp4, HL.out]⟩, ⟨HRN⟩, ⟨⟨HKN, HLN⟩⟩, ⟨HBN⟩⟩, by simp [intOf] <;> omega⟩
        | succ j =>
          obtain ⟨ad, e, rfl, hee, p0, p1, p2, p3⟩ := elE HRW j (by omega)
          have hy := lp_at hlp.out hee.out
          have HY := Aside0.mk hy
          clear hy
          have hke := HKW.out e (List.mem_of_getElem? hee.out)
          have HKe := Aside0.mk (Kd.F_now hke)
          clear hke
          have hjl : j < acc.length := by omega
          have nJ : Aside0 (Go.RowKit.wrap64 (j : Int) = j) := ⟨by rw [← i64_w]; exact IntWalk.i64_in _ (by omega)⟩
          by_cases hq : cmpR r e.1 < 0
          · have HQ := Aside0.mk hq
            have hd : decide (cmpR r e.1 < 0) = true := decide_eq_true hq
            go_wp2
            have HKe1 : Aside0 (k70.C W2.drew e.2.1 e.1.f3.length e.1.f3) := ⟨Kd.C_below HKe.out (pw_below_drewN (Below.refl _ _) 1)⟩
            have HBW : Below w.heap.size w W2.drew := below_step (below_step HBU HB2.out) (pw_below_drewN (Below.refl _ _) 1)
            have HBU2 : Below U.heap.size U W2.drew := below_step HB2.out (pw_below_drewN (Below.refl _ _) 1)
            replace BbW := blk_drew BbW
            replace p0 := pw_cell_below (pw_below_drewN (Below.refl W2.heap.size W2) 1) p0
            replace p1 := pw_cell_below (pw_below_drewN (Below.refl W2.heap.size W2) 1) p1
            replace p2 := pw_cell_below (pw_below_drewN (Below.refl W2.heap.size W2) 1) p2
            replace p3 := pw_cell_below (pw_below_drewN (Below.refl W2.heap.size W2) 1) p3
            change W2.drew.cell? _ = _ at p0 p1 p2 p3
            clear HRW HKW HKe
            refine start_ (n := 12) (S := fun w' => w'.cell? ⟨gb, 0, none⟩ = some (.string r.f0) ∧ w'.cell? ⟨gb, 1, none⟩ = some (.int .i64 r.f1) ∧ w'.cell? ⟨gb, 2, none⟩ = some (.int .i64 r.f2) ∧ w'.cell? ⟨gb, 3, none⟩ = some (.slice Ar r.f3.length cr) ∧ w'.cell? (ad.add (j * 4)) = some (.string e.1.f0) ∧ w'.cell? ⟨(ad.add (j * 4)).block, (ad.add (j * 4)).off + 1, none⟩ = some (.int .i64 e.1.f1) ∧ w'.cell? ⟨(ad.add (j * 4)).block, (ad.add (j * 4)).off + 2, none⟩ = some (.int .i64 e.1.f2) ∧ w'.cell? ⟨(ad.add (j * 4)).block, (ad.add (j * 4)).off + 3, none⟩ = some (.slice e.2.1 e.1.f3.length e.2.2)) (ds := []) #[false, false, false, false, false, false, false, false, false, false, false, false] (by kernel_rfl) rfl rfl ⟨(blk_cell BbW 0).trans rfl, (blk_cell BbW 1).trans rfl, (blk_cell BbW 2).trans rfl, (blk_cell BbW 3).trans rfl, p0, p1, p2, p3⟩ (fun hHeld => ?_)
            generalize W2.drew = U1 at HKe1 HBW HBU2 BbW p0 p1 p2 p3 hHeld ⊢
            refine pure_ (i := 0) (N := some 15) (v := ?_) (a' := ?_) #[true, false, false, false, false, false, false, false, false, false, false, false] rfl rfl (by kernel_rfl) (fun _ _ _ h => h) (Or.inl ⟨by rfl, ?_⟩) ?_ ?_
            rotate_left
            · intro w'
              go_simp
              with_reducible rfl
            rotate_left
            · simp only [Act.put, List.setIfInBounds_toArray, List.set_cons_zero, List.set_cons_succ]
              rfl
            refine pure_ (i := 1) (N := some 16) (v := ?_) (a' := ?_) #[true, true, false, false, false, false, false, false, false, false, false, false] rfl rfl (by kernel_rfl) (fun _ _ _ h => h) (Or.inl ⟨by rfl, ?_⟩) ?_ ?_
            rotate_left
            · intro w'
              go_simp
              with_reducible rfl
            rotate_left
            · simp only [Act.put, List.setIfInBounds_toArray, List.set_cons_zero, List.set_cons_succ]
              rfl
            refine pure_ (i := 2) (N := some 17) (v := ?_) (a' := ?_) #[true, true, true, false, false, false, false, false, false, false, false, false] rfl rfl (by kernel_rfl) (fun _ _ _ h => h) (Or.inl ⟨by rfl, ?_⟩) ?_ ?_
            rotate_left
            · intro w'
              go_simp
              with_reducible rfl
            rotate_left
            · simp only [Act.put, List.setIfInBounds_toArray, List.set_cons_zero, List.set_cons_succ]
              rfl
            refine pure_ (i := 4) (N := some 19) (v := ?_) (a' := ?_) #[true, true, true, false, true, false, false, false, false, false, false, false] rfl rfl (by kernel_rfl) (fun _ _ _ h => h) (Or.inl ⟨by rfl, ?_⟩) ?_ ?_
            rotate_left
            · intro w'
              go_simp
              with_reducible rfl
            rotate_left
            · simp only [Act.put, List.setIfInBounds_toArray, List.set_cons_zero, List.set_cons_succ]
              rfl
            refine pure_ (i := 5) (N := some 20) (v := ?_) (a' := ?_) #[true, true, true, false, true, true, false, false, false, false, false, false] rfl rfl (by kernel_rfl) (fun _ _ _ h => h) (Or.inl ⟨by rfl, ?_⟩) ?_ ?_
            rotate_left
            · intro w'
              go_simp
              with_reducible rfl
            rotate_left
            · simp only [Act.put, List.setIfInBounds_toArray, List.set_cons_zero, List.set_cons_succ]
              rfl
            refine pure_ (i := 6) (N := some 21) (v := ?_) (a' := ?_) #[true, true, true, false, true, true, true, false, false, false, false, false] rfl rfl (by kernel_rfl) (fun _ _ _ h => h) (Or.inl ⟨by rfl, ?_⟩) ?_ ?_
            rotate_left
            · intro w'
              go_simp
              with_reducible rfl
            rotate_left
            · simp only [Act.put, List.setIfInBounds_toArray, List.set_cons_zero, List.set_cons_succ, i64_w, nJ.out]
              rfl
            refine pure_ (i := 7) (N := some 22) (v := ?_) (a' := ?_) #[true, true, true, false, true, true, true, true, false, false, false, false] rfl rfl (by kernel_rfl) (fun _ _ _ h => h) (Or.inl ⟨by rfl, ?_⟩) ?_ ?_
            rotate_left
            · intro w'
              go_simp
              with_reducible rfl
            rotate_left
            · simp only [Act.put, List.setIfInBounds_toArray, List.set_cons_zero, List.set_cons_succ]
              rfl
            refine take_ (i := 3) (N := some 18) (v := ?_) (a' := ?_) #[true, true, true, true, true, true, true, true, false, false, false, false] rfl rfl (by kernel_rfl) (fun _ _ _ h => h) (Or.inl ⟨by rfl, ?_⟩) hHeld ?_ ?_
            rotate_left
            · rintro w' ⟨s0, s1, s2, s3, s4, s5, s6, s7⟩
              go_simp
              with_reducible rfl
            rotate_left
            · simp only [Act.put, List.setIfInBounds_toArray, List.set_cons_zero, List.set_cons_succ]
              rfl
            refine take_ (i := 8) (N := some 23) (v := ?_) (a' := ?_) #[true, true, true, true, true, true, true, true, true, false, false, false] rfl rfl (by kernel_rfl) (fun _ _ _ h => h) (Or.inl ⟨by rfl, ?_⟩) hHeld ?_ ?_
            rotate_left
            · rintro w' ⟨s0, s1, s2, s3, s4, s5, s6, s7⟩
              go_simp
              with_reducible rfl
            rotate_left
            · simp only [Act.put, List.setIfInBounds_toArray, List.set_cons_zero, List.set_cons_succ]
              rfl
            refine one_ (i := 9) (N := some 24) #[true, true, true, true, true, true, true, true, true, true, false, false] rfl rfl (by kernel_rfl) (by decide) (fun K hK => ?_)
            refine goes_ Try.func18 (by kernel_rfl) rfl #[.agg #[.string r.f0, .int .i64 r.f1, .int .i64 r.f2, .slice Ar r.f3.length cr], .agg #[.string e.1.f0, .int .i64 e.1.f1, .int .i64 e.1.f2, .slice e.2.1 e.1.f3.length e.2.2]] (by rfl) rfl rfl (by simp only [List.map_toArray, List.map_cons, List.map_nil]; rfl) ?_
            with_reducible refine (CompareRegions_calls r e.1 Ar e.2.1 cr e.2.2 U1 (Kd.C_below gr.out HBW) HKe1.out).mono ?_
            rintro ee U2 ⟨rfl, hb⟩
            replace HBW := below_step HBW hb
            replace HBU2 := below_step HBU2 hb
            replace BbW := blk_below BbW hb
            replace p0 := pw_cell_below hb p0
            replace p1 := pw_cell_below hb p1
            replace p2 := pw_cell_below hb p2
            replace p3 := pw_cell_below hb p3
            clear hb
            refine ⟨_, rfl, ?_⟩
            refine hK.out _ _ ⟨(blk_cell BbW 0).trans rfl, (blk_cell BbW 1).trans rfl, (blk_cell BbW 2).trans rfl, (blk_cell BbW 3).trans rfl, p0, p1, p2, p3⟩ (fun hHeld => ?_)
            clear hK K
            refine norm_ (a' := ?_) ?_ ?_
            rotate_left
            · show Act.put _ (some 24) _ = _
              simp only [Act.put, List.setIfInBounds_toArray, List.set_cons_zero, List.set_cons_succ]
              rfl
            refine pure_ (i := 10) (N := some 25) (v := ?_) (a' := ?_) #[true, true, true, true, true, true, true, true, true, true, true, false] rfl rfl (by kernel_rfl) (fun _ _ _ h => h) (Or.inl ⟨by rfl, ?_⟩) ?_ ?_
            rotate_left
            · intro w'
              go_simp
              with_reducible rfl
            rotate_left
            · simp only [Act.put, List.setIfInBounds_toArray, List.set_cons_zero, List.set_cons_succ]
              rfl
            refine pure_ (i := 11) (N := some 26) (v := ?_) (a' := ?_) #[true, true, true, true, true, true, true, true, true, true, true, true] rfl rfl (by kernel_rfl) (fun _ _ _ h => h) (Or.inl ⟨by rfl, ?_⟩) ?_ ?_
            rotate_left
            · intro w'
              go_simp
              with_reducible rfl
            rotate_left
            · simp only [Act.put, List.setIfInBounds_toArray, List.set_cons_zero, List.set_cons_succ]
              rfl
            refine done_ (by kernel_rfl) ?_
            go_wp2_with fail
            go_roundw
            case rel => exact ⟨j, by omega, by go_num, ⟨HP.out.trans (posR_go HY.out (by have := HQ.out; omega))⟩, ⟨HBU2⟩⟩
            case measure => simp [intOf] <;> omega
          · have HQ := Aside0.mk hq
            have hd : decide (cmpR r e.1 < 0) = false := decide_eq_false hq
            go_wp2
            have HKe1 : Aside0 (k70.C W2.drew e.2.1 e.1.f3.length e.1.f3) := ⟨Kd.C_below HKe.out (pw_below_drewN (Below.refl _ _) 1)⟩
            have HBW : Below w.heap.size w W2.drew := below_step (below_step HBU HB2.out) (pw_below_drewN (Below.refl _ _) 1)
            have HBU2 : Below U.heap.size U W2.drew := below_step HB2.out (pw_below_drewN (Below.refl _ _) 1)
            replace BbW := blk_drew BbW
            replace p0 := pw_cell_below (pw_below_drewN (Below.refl W2.heap.size W2) 1) p0
            replace p1 := pw_cell_below (pw_below_drewN (Below.refl W2.heap.size W2) 1) p1
            replace p2 := pw_cell_below (pw_below_drewN (Below.refl W2.heap.size W2) 1) p2
            replace p3 := pw_cell_below (pw_below_drewN (Below.refl W2.heap.size W2) 1) p3
            change W2.drew.cell? _ = _ at p0 p1 p2 p3
            clear HRW HKW HKe
            refine start_ (n := 12) (S := fun w' => w'.cell? ⟨gb, 0, none⟩ = some (.string r.f0) ∧ w'.cell? ⟨gb, 1, none⟩ = some (.int .i64 r.f1) ∧ w'.cell? ⟨gb, 2, none⟩ = some (.int .i64 r.f2) ∧ w'.cell? ⟨gb, 3, none⟩ = some (.slice Ar r.f3.length cr) ∧ w'.cell? (ad.add (j * 4)) = some (.string e.1.f0) ∧ w'.cell? ⟨(ad.add (j * 4)).block, (ad.add (j * 4)).off + 1, none⟩ = some (.int .i64 e.1.f1) ∧ w'.cell? ⟨(ad.add (j * 4)).block, (ad.add (j * 4)).off + 2, none⟩ = some (.int .i64 e.1.f2) ∧ w'.cell? ⟨(ad.add (j * 4)).block, (ad.add (j * 4)).off + 3, none⟩ = some (.slice e.2.1 e.1.f3.length e.2.2)) (ds := []) #[false, false, false, false, false, false, false, false, false, false, false, false] (by kernel_rfl) rfl rfl ⟨(blk_cell BbW 0).trans rfl, (blk_cell BbW 1).trans rfl, (blk_cell BbW 2).trans rfl, (blk_cell BbW 3).trans rfl, p0, p1, p2, p3⟩ (fun hHeld => ?_)
            generalize W2.drew = U1 at HKe1 HBW HBU2 BbW p0 p1 p2 p3 hHeld ⊢
            refine pure_ (i := 0) (N := some 15) (v := ?_) (a' := ?_) #[true, false, false, false, false, false, false, false, false, false, false, false] rfl rfl (by kernel_rfl) (fun _ _ _ h => h) (Or.inl ⟨by rfl, ?_⟩) ?_ ?_
            rotate_left
            · intro w'
              go_simp
              with_reducible rfl
            rotate_left
            · simp only [Act.put, List.setIfInBounds_toArray, List.set_cons_zero, List.set_cons_succ]
              rfl
            refine pure_ (i := 1) (N := some 16) (v := ?_) (a' := ?_) #[true, true, false, false, false, false, false, false, false, false, false, false] rfl rfl (by kernel_rfl) (fun _ _ _ h => h) (Or.inl ⟨by rfl, ?_⟩) ?_ ?_
            rotate_left
            · intro w'
              go_simp
              with_reducible rfl
            rotate_left
            · simp only [Act.put, List.setIfInBounds_toArray, List.set_cons_zero, List.set_cons_succ]
              rfl
            refine pure_ (i := 2) (N := some 17) (v := ?_) (a' := ?_) #[true, true, true, false, false, false, false, false, false, false, false, false] rfl rfl (by kernel_rfl) (fun _ _ _ h => h) (Or.inl ⟨by rfl, ?_⟩) ?_ ?_
            rotate_left
            · intro w'
              go_simp
              with_reducible rfl
            rotate_left
            · simp only [Act.put, List.setIfInBounds_toArray, List.set_cons_zero, List.set_cons_succ]
              rfl
            refine pure_ (i := 4) (N := some 19) (v := ?_) (a' := ?_) #[true, true, true, false, true, false, false, false, false, false, false, false] rfl rfl (by kernel_rfl) (fun _ _ _ h => h) (Or.inl ⟨by rfl, ?_⟩) ?_ ?_
            rotate_left
            · intro w'
              go_simp
              with_reducible rfl
            rotate_left
            · simp only [Act.put, List.setIfInBounds_toArray, List.set_cons_zero, List.set_cons_succ]
              rfl
            refine pure_ (i := 5) (N := some 20) (v := ?_) (a' := ?_) #[true, true, true, false, true, true, false, false, false, false, false, false] rfl rfl (by kernel_rfl) (fun _ _ _ h => h) (Or.inl ⟨by rfl, ?_⟩) ?_ ?_
            rotate_left
            · intro w'
              go_simp
              with_reducible rfl
            rotate_left
            · simp only [Act.put, List.setIfInBounds_toArray, List.set_cons_zero, List.set_cons_succ]
              rfl
            refine pure_ (i := 6) (N := some 21) (v := ?_) (a' := ?_) #[true, true, true, false, true, true, true, false, false, false, false, false] rfl rfl (by kernel_rfl) (fun _ _ _ h => h) (Or.inl ⟨by rfl, ?_⟩) ?_ ?_
            rotate_left
            · intro w'
              go_simp
              with_reducible rfl
            rotate_left
            · simp only [Act.put, List.setIfInBounds_toArray, List.set_cons_zero, List.set_cons_succ, i64_w, nJ.out]
              rfl
            refine pure_ (i := 7) (N := some 22) (v := ?_) (a' := ?_) #[true, true, true, false, true, true, true, true, false, false, false, false] rfl rfl (by kernel_rfl) (fun _ _ _ h => h) (Or.inl ⟨by rfl, ?_⟩) ?_ ?_
            rotate_left
            · intro w'
              go_simp
              with_reducible rfl
            rotate_left
            · simp only [Act.put, List.setIfInBounds_toArray, List.set_cons_zero, List.set_cons_succ]
              rfl
            refine take_ (i := 3) (N := some 18) (v := ?_) (a' := ?_) #[true, true, true, true, true, true, true, true, false, false, false, false] rfl rfl (by kernel_rfl) (fun _ _ _ h => h) (Or.inl ⟨by rfl, ?_⟩) hHeld ?_ ?_
            rotate_left
            · rintro w' ⟨s0, s1, s2, s3, s4, s5, s6, s7⟩
              go_simp
              with_reducible rfl
            rotate_left
            · simp only [Act.put, List.setIfInBounds_toArray, List.set_cons_zero, List.set_cons_succ]
              rfl
            refine take_ (i := 8) (N := some 23) (v := ?_) (a' := ?_) #[true, true, true, true, true, true, true, true, true, false, false, false] rfl rfl (by kernel_rfl) (fun _ _ _ h => h) (Or.inl ⟨by rfl, ?_⟩) hHeld ?_ ?_
            rotate_left
            · rintro w' ⟨s0, s1, s2, s3, s4, s5, s6, s7⟩
              go_simp
              with_reducible rfl
            rotate_left
            · simp only [Act.put, List.setIfInBounds_toArray, List.set_cons_zero, List.set_cons_succ]
              rfl
            refine one_ (i := 9) (N := some 24) #[true, true, true, true, true, true, true, true, true, true, false, false] rfl rfl (by kernel_rfl) (by decide) (fun K hK => ?_)
            refine goes_ Try.func18 (by kernel_rfl) rfl #[.agg #[.string r.f0, .int .i64 r.f1, .int .i64 r.f2, .slice Ar r.f3.length cr], .agg #[.string e.1.f0, .int .i64 e.1.f1, .int .i64 e.1.f2, .slice e.2.1 e.1.f3.length e.2.2]] (by rfl) rfl rfl (by simp only [List.map_toArray, List.map_cons, List.map_nil]; rfl) ?_
            with_reducible refine (CompareRegions_calls r e.1 Ar e.2.1 cr e.2.2 U1 (Kd.C_below gr.out HBW) HKe1.out).mono ?_
            rintro ee U2 ⟨rfl, hb⟩
            replace HBW := below_step HBW hb
            replace HBU2 := below_step HBU2 hb
            replace BbW := blk_below BbW hb
            replace p0 := pw_cell_below hb p0
            replace p1 := pw_cell_below hb p1
            replace p2 := pw_cell_below hb p2
            replace p3 := pw_cell_below hb p3
            clear hb
            refine ⟨_, rfl, ?_⟩
            refine hK.out _ _ ⟨(blk_cell BbW 0).trans rfl, (blk_cell BbW 1).trans rfl, (blk_cell BbW 2).trans rfl, (blk_cell BbW 3).trans rfl, p0, p1, p2, p3⟩ (fun hHeld => ?_)
            clear hK K
            refine norm_ (a' := ?_) ?_ ?_
            rotate_left
            · show Act.put _ (some 24) _ = _
              simp only [Act.put, List.setIfInBounds_toArray, List.set_cons_zero, List.set_cons_succ]
              rfl
            refine pure_ (i := 10) (N := some 25) (v := ?_) (a' := ?_) #[true, true, true, true, true, true, true, true, true, true, true, false] rfl rfl (by kernel_rfl) (fun _ _ _ h => h) (Or.inl ⟨by rfl, ?_⟩) ?_ ?_
            rotate_left
            · intro w'
              go_simp
              with_reducible rfl
            rotate_left
            · simp only [Act.put, List.setIfInBounds_toArray, List.set_cons_zero, List.set_cons_succ]
              rfl
            refine pure_ (i := 11) (N := some 26) (v := ?_) (a' := ?_) #[true, true, true, true, true, true, true, true, true, true, true, true] rfl rfl (by kernel_rfl) (fun _ _ _ h => h) (Or.inl ⟨by rfl, ?_⟩) ?_ ?_
            rotate_left
            · intro w'
              go_simp
              with_reducible rfl
            rotate_left
            · simp only [Act.put, List.setIfInBounds_toArray, List.set_cons_zero, List.set_cons_succ]
              rfl
            refine done_ (by kernel_rfl) ?_
            have HB3 := HBU2
            have HPos : Aside0 (posR r lp lp.length = j + 1) := ⟨HP.out.trans (posR_stop HY.out (by have := HQ.out; omega))⟩
            clear HBW HBU2 BbW p0 p1 p2 p3 HP HB2 HY hee
            generalize U2 = W3 at HB3 ⊢
            have HR3 := Kd.R_below HRU HB3
            have HK3 : Aside0 (∀ e ∈ acc, Ke w W3 e) := ⟨fun e he => (HKU.out e he).below HB3⟩
            have Bb3 := blk_below Bb HB3
            have HBW3 := below_step HBU HB3
            have hty : ∀ g, (Value.slice (some ad) acc.length cv).ownBlock = some g → w.heap.size ≤ g ∧ ∃ cells, W3.heap[g]? = some (.cells cells 39 (0, 0)) := (Kd.R_own HR3).elim fun _ h g hg => ⟨own_base h g hg, own_typed h g hg⟩
            have hws3 := HBW3.size
            go_wp2_with (at_builtin; refine Kd.R_append kE (w0 := W3) (W := W3) w.heap.size rfl (.tmp 29) (.tmp 31) 25 39 _ 56 rfl Try.underlying25 info39 rfl (by decide) (by decide) (.slice (some ad) acc.length cv) acc (z39, none, 0) (enE (z39, none, 0)) (fun _ => True) (fun k => some k ≠ (Value.slice (some ad) acc.length cv).ownBlock) rfl rfl rfl (fun _ h => ⟨trivial, h⟩) (fun _ _ => trivial) HR3 (Below.refl _ _) hws3 (by omega) ?_; intro v4 W4 hR4 _ hg4 hat4; generalize hac : acc ++ [(z39, none, 0)] = ac4 at hR4; replace hac := Aside0.mk hac; obtain ⟨A4, c4, rfl⟩ := Kd.R_slice hR4)
            have hl4 : ac4.length = acc.length + 1 := by rw [← hac.out]; simp
            have HL4 := Aside0.mk hl4
            obtain ⟨ad4, rfl, hz4, -, hc4, hb4, ⟨cells4, hh4⟩⟩ := R_some hR4 (by omega)
            have HZ4 := Aside0.mk hz4
            have HK4 : Aside0 (∀ e ∈ acc, Ke w W4 e) := ⟨fun e he => (HK3.out e he).grown hg4 hty⟩
            have Bb4 := (hg4.block gb (blk_lt Bb3) (fun e => by have := hlt0 gb e.symm; omega)).trans Bb3
            have HBW4 := below_grown HBW3 hg4 (fun b hb => (hty b hb).1)
            have hgne : gb ≠ ad4.block := by
              rcases hat4 with h | ⟨b, h, hb⟩
              · have := hlt0 ad4.block h.symm; omega
              · have e1 : ad4.block = b := by simpa [Value.ownBlock] using h
                have := blk_lt Bb3; omega
            clear hat4 hz4 HR3 HK3 Bb3 HBW3 hty hg4 HB3 HRU HKU Bb HBU hlt0
            have hp4 : (j + 1) ≤ acc.length := by omega
            have nP : Aside0 (Go.RowKit.wrap64 ((j : Int) + 1 + 1) = ((j : Int) + 1 + 1)) := ⟨by rw [← i64_w]; exact IntWalk.i64_in _ (by omega)⟩
            have hs0 : 0 ≤ ((j : Int) + 1 + 1) := by omega
            have hs1 : ((j : Int) + 1 + 1) ≤ (ac4.length : Int) := by omega
            have hs2 : (0 : Int) ≤ (ac4.length : Int) := by omega
            have hs4 : (0 : Int) ≤ (j : Int) + 1 := by omega
            have hs3 : (((j : Int) + 1) : Int) ≤ (ac4.length : Int) := by omega
            clear hl4
            by_cases hend : (j + 1) = acc.length
            · have HEND := Aside0.mk hend
              clear hend
              have HR5 := Kd.R_below hR4 (pw_below_drewN (Below.refl _ _) 1 : Below W4.heap.size W4 (W4.drewN 1))
              change Kd.R _ _ W4.drew _ _ _ _ at HR5
              refine start_ (n := 8) (S := fun w' => True) (ds := []) #[false, false, false, false, false, false, false, false] (by kernel_rfl) rfl rfl trivial (fun hHeld => ?_)
              refine pure_ (i := 0) (N := some 33) (v := ?_) (a' := ?_) #[true, false, false, false, false, false, false, false] rfl rfl (by kernel_rfl) (fun _ _ _ h => h) (Or.inl ⟨by rfl, ?_⟩) ?_ ?_
              rotate_left
              · intro w'
                go_simp
                with_reducible rfl
              rotate_left
              · simp only [Act.put, List.setIfInBounds_toArray, List.set_cons_zero, List.set_cons_succ]
                rfl
              refine pure_ (i := 1) (N := some 34) (v := ?_) (a' := ?_) #[true, true, false, false, false, false, false, false] rfl rfl (by kernel_rfl) (fun _ _ _ h => h) (Or.inl ⟨by rfl, ?_⟩) ?_ ?_
              rotate_left
              · intro w'
                go_simp
                with_reducible rfl
              rotate_left
              · simp only [Act.put, List.setIfInBounds_toArray, List.set_cons_zero, List.set_cons_succ]
                rfl
              refine pure_ (i := 2) (N := some 35) (v := ?_) (a' := ?_) #[true, true, true, false, false, false, false, false] rfl rfl (by kernel_rfl) (fun _ _ _ h => h) (Or.inl ⟨by rfl, ?_⟩) ?_ ?_
              rotate_left
              · intro w'
                go_simp
                with_reducible rfl
              rotate_left
              · simp only [Act.put, List.setIfInBounds_toArray, List.set_cons_zero, List.set_cons_succ, i64_w, nP.out]
                rfl
              refine pure_ (i := 3) (N := some 36) (v := ?_) (a' := ?_) #[true, true, true, true, false, false, false, false] rfl rfl (by kernel_rfl) (fun _ _ _ h => h) (Or.inl ⟨by rfl, ?_⟩) ?_ ?_
              rotate_left
              · intro w'
                go_simp
                with_reducible rfl
              rotate_left
              · simp only [Act.put, List.setIfInBounds_toArray, List.set_cons_zero, List.set_cons_succ]
                rfl
              refine pure_ (i := 4) (N := some 37) (v := ?_) (a' := ?_) #[true, true, true, true, true, false, false, false] rfl rfl (by kernel_rfl) (fun _ _ _ h => h) (Or.inl ⟨by rfl, ?_⟩) ?_ ?_
              rotate_left
              · intro w'
                go_simp
                with_reducible rfl
              rotate_left
              · simp only [Act.put, List.setIfInBounds_toArray, List.set_cons_zero, List.set_cons_succ]
                rfl
              refine pure_ (i := 5) (N := some 38) (v := ?_) (a' := ?_) #[true, true, true, true, true, true, false, false] rfl rfl (by kernel_rfl) (fun _ _ _ h => h) (Or.inl ⟨by rfl, ?_⟩) ?_ ?_
              rotate_left
              · intro w'
                go_simp
                with_reducible rfl
              rotate_left
              · simp only [Act.put, List.setIfInBounds_toArray, List.set_cons_zero, List.set_cons_succ]
                rfl
              refine pure_ (i := 6) (N := some 39) (v := ?_) (a' := ?_) #[true, true, true, true, true, true, true, false] rfl rfl (by kernel_rfl) (fun _ _ _ h => h) (Or.inl ⟨by rfl, ?_⟩) ?_ ?_
              rotate_left
              · intro w'
                go_simp
                with_reducible rfl
              rotate_left
              · simp only [Act.put, List.setIfInBounds_toArray, List.set_cons_zero, List.set_cons_succ]
                rfl
              refine one_ (i := 7) (N := some 40) #[true, true, true, true, true, true, true, true] rfl rfl (by kernel_rfl) (by decide) (fun K hK => ?_)
              refine step_copyE rfl rfl (.tmp 36) (.tmp 39) 25 25 rfl _ _ rfl rfl (run_copy4_none W4.drew 25 25 _ 39 _ _ _ _ _ _ Try.underlying25 info39s (by have := HL4.out; have := HEND.out; show min _ _ = 0; omega)) ?_
              refine hK.out _ _ trivial (fun hHeld => ?_)
              clear hK K
              refine norm_ (a' := ?_) ?_ ?_
              rotate_left
              · show Act.put _ (some 40) _ = _
                simp only [Act.put, List.setIfInBounds_toArray, List.set_cons_zero, List.set_cons_succ]
                rfl
              refine done_ (by kernel_rfl) ?_
              have HS5 : Aside0 (∀ e' : El, ac4.set (j + 1) e' = acc.take (j + 1) ++ e' :: acc.drop (j + 1)) := ⟨fun e' => by have h := @put_end acc (z39, none, 0) e'; rw [hac.out, ← HEND.out] at h; exact h⟩
              have HK5 : Aside0 (∀ e ∈ acc, Ke w W4.drew e) := ⟨fun e he => (HK4.out e he).below (pw_below_drewN (Below.refl _ _) 1)⟩
              have Bb5 := blk_drew Bb4
              have HBW5 : Below w.heap.size w W4.drew := below_step HBW4 (pw_below_drewN (Below.refl _ _) 1)
              have HT5 : ∃ cells, W4.drew.heap[ad4.block]? = some (.cells cells 39 (0, 0)) := ⟨cells4, blk_drew hh4⟩
              generalize W4.drew = W5 at HR5 HK5 Bb5 HBW5 HT5 ⊢
              have HL5 : Aside0 (ac4.length = acc.length + 1) := HL4
              obtain ⟨L5, hL5⟩ : ∃ L5, L5 = ac4 := ⟨_, rfl⟩
              rw [← hL5] at HR5 HS5 HL5
              clear hL5
              have HR5' : kE.R 39 W5 w.heap.size (fun _ => True) (.slice (some ⟨ad4.block, 0, none⟩) (acc.length + 1) c4) L5 := by
                rw [HL5.out] at HR5
                exact HZ4.out ▸ HR5
              generalize (if c4 = ((j : Int) + 1 + 1).toNat then some ad4 else some (ad4.add (((j : Int) + 1 + 1).toNat * 4))) = X36
              try generalize (if c4 = j + 1 then some ad4 else some (ad4.add ((j + 1) * 4))) = X39
              obtain ⟨e0, he0⟩ := elC HR5' (j + 1) (by have := HL5.out; omega)
              have HE0 := Aside0.mk he0
              clear he0
              have hs5 : ((j : Int) + 1) < (ac4.length : Int) := by have := HL4.out; omega
              have bx0 := (blk_cell Bb5 0).trans rfl
              have bx1 := (blk_cell Bb5 1).trans rfl
              have bx2 := (blk_cell Bb5 2).trans rfl
              have bx3 := (blk_cell Bb5 3).trans rfl
              have hcn := copyRegion_callsN Ar cr r 0 W5 (Kd.C_below gr.out HBW5) (by omega) (IntWalk.i64_in _ (by have := hrg.1; unfold rng at hrg; omega)) (IntWalk.i64_in _ (by unfold rng at hrg; omega))
              simp only [Int.add_zero] at hcn
              have HCN := Aside0.mk hcn
              clear hcn
              go_wp2_with (first | (go_at_call 54; refine HCN.out.mono ?_; rintro ee W6 ⟨v6, rfl, hR6k, hb6⟩; obtain ⟨A6, c6, rfl⟩ := Kd.R_slice hR6k) | (refine gate_ (.store 39 (.tmp 45) (.tmp 44)) rfl ?_; refine Kd.R_store kE (w0 := W6) (W := W6) w.heap.size rfl rfl 39 (.tmp 45) (.tmp 44) rfl 39 (g := ad4.block) (n := acc.length + 1) (cap := c4) (o' := (j + 1) * 4) (((j + 1) : Nat) : Int) 0 L5 (r, A6, c6) (.agg (enE (r, A6, c6)).toArray) (enE (r, A6, c6)) (enE e0) (fun _ => True) (fun _ => False) (by first | (show Value.pointer (some (ad4.add ((j + 1) * 4))) = _; rw [adz HZ4.out]) | (show Value.pointer (some ad4) = _; rw [Nat.zero_mul, ← HZ4.out])) (by simp [kE]) rfl rfl info39s (fun q hq => kE.K_one (w := W6) (x := (r, A6, c6)) rfl q hq) (Kd.R_below HR5' hb6) (by omega) (by omega) rfl (fun j u hu => pw_cell_below hb6 (by simpa [kE] using HE0.out j u hu)) (by simp [kE, enE]) rfl (fun _ h => h.elim) (Below.refl _ _) ?_; intro W7 hR7 _ hg7))
              obtain ⟨cells6, hT6⟩ := HT5
              have HT6 := blk_below hT6 hb6
              have HROWG : ∀ g, some ad4.block = some g → w.heap.size ≤ g ∧ ∃ cells, W6.heap[g]? = some (.cells cells 39 (0, 0)) := fun g hg => by obtain rfl := Option.some.inj hg; exact ⟨hb4, cells6, HT6⟩
              have HKN : ∀ x ∈ acc.take (j + 1) ++ (r, A6, c6) :: acc.drop (j + 1), Ke w W7 x := fun x hx => (mem_put hx).elim (fun h => ((HK5.out x h).below hb6).grown hg7 HROWG) (fun h => by subst h; exact (Ke.made (e := (r, A6, c6)) hR6k).grown hg7 HROWG)
              have HLN : ∀ x ∈ acc.take (j + 1) ++ (r, A6, c6) :: acc.drop (j + 1), x.1.f3.length ≤ x.2.2 := fun x hx => (mem_put hx).elim (fun h => HKE.out.2 x h) (fun h => by subst h; exact (R_CK hR6k).1)
              have HBN := below_grown (below_step HBW5 hb6) hg7 (fun b hb => (HROWG b hb).1)
              have HRN : kE.R 39 W7 w.heap.size (fun _ => True) (.slice (some ad4) (acc.take (j + 1) ++ (r, A6, c6) :: acc.drop (j + 1)).length c4) (acc.take (j + 1) ++ (r, A6, c6) :: acc.drop (j + 1)) := by
                have h := hR7
                rw [Int.toNat_natCast, HS5.out, ← len_put (e := (r, A6, c6)) hp4, ← HZ4.out] at h
                exact h
              exact ⟨⟨k + 1, acc.take (j + 1) ++ (r, A6, c6) :: acc.drop (j + 1), some ad4, c4, by omega, by go_num, by rw [len_put hp4, HL4.out], ⟨putR_at hlp.out HM.out hrr.out HPos.out rfl⟩, ⟨by rw [len_put hp4, HL.out]⟩, ⟨HRN⟩, ⟨⟨HKN, HLN⟩⟩, ⟨HBN⟩⟩, by simp [intOf] <;> omega⟩
            · have HEND := Aside0.mk hend
              clear hend
              have HR5 := Kd.R_below hR4 (pw_below_drewN (Below.refl _ _) 1 : Below W4.heap.size W4 (W4.drewN 1))
              change Kd.R _ _ W4.drew _ _ _ _ at HR5
              have hz4 := HZ4.out
              have hl4 := HL4.out
              have hpn : (j + 1) < acc.length := by have := HEND.out; omega
              have HR5' := HR5
              rw [hl4, hz4] at HR5'
              obtain ⟨W5, hrun, HR6, hg5⟩ := run_shift (p := (j + 1)) (n := acc.length) (ty := 3) HR5' hpn Try.underlying25 info39s (c4 - ((j : Int) + 1 + 1).toNat) (c4 - (j + 1))
              have hv1 : (Value.slice (if c4 = ((j : Int) + 1 + 1).toNat then some ad4 else some (ad4.add (((j : Int) + 1 + 1).toNat * 4))) (ac4.length - ((j : Int) + 1 + 1).toNat) (c4 - ((j : Int) + 1 + 1).toNat)) = .slice (some ⟨ad4.block, ((j + 1) + 1) * 4, none⟩) (acc.length - (j + 1)) (c4 - ((j : Int) + 1 + 1).toNat) := by
                rw [if_neg (by omega), hl4]
                rw [hz4, addJ, show ((j : Int) + 1 + 1).toNat = j + 1 + 1 by omega, Nat.zero_add, show acc.length + 1 - (j + 1 + 1) = acc.length - (j + 1) by omega]
              have hv2 : (Value.slice (if c4 = j + 1 then some ad4 else some (ad4.add ((j + 1) * 4))) (ac4.length - (j + 1)) (c4 - (j + 1))) = .slice (some ⟨ad4.block, (j + 1) * 4, none⟩) (acc.length + 1 - (j + 1)) (c4 - (j + 1)) := by
                rw [if_neg (by omega), hl4, hz4, addJ]; congr 1; simp
              have HV1 := Aside0.mk hv1
              have HV2 := Aside0.mk hv2
              have HPN := Aside0.mk hpn
              clear hz4 hl4 HR5' hv1 hv2 hpn
              refine start_ (n := 8) (S := fun w' => True) (ds := []) #[false, false, false, false, false, false, false, false] (by kernel_rfl) rfl rfl trivial (fun hHeld => ?_)
              refine pure_ (i := 0) (N := some 33) (v := ?_) (a' := ?_) #[true, false, false, false, false, false, false, false] rfl rfl (by kernel_rfl) (fun _ _ _ h => h) (Or.inl ⟨by rfl, ?_⟩) ?_ ?_
              rotate_left
              · intro w'
                go_simp
                with_reducible rfl
              rotate_left
              · simp only [Act.put, List.setIfInBounds_toArray, List.set_cons_zero, List.set_cons_succ]
                rfl
              refine pure_ (i := 1) (N := some 34) (v := ?_) (a' := ?_) #[true, true, false, false, false, false, false, false] rfl rfl (by kernel_rfl) (fun _ _ _ h => h) (Or.inl ⟨by rfl, ?_⟩) ?_ ?_
              rotate_left
              · intro w'
                go_simp
                with_reducible rfl
              rotate_left
              · simp only [Act.put, List.setIfInBounds_toArray, List.set_cons_zero, List.set_cons_succ]
                rfl
              refine pure_ (i := 2) (N := some 35) (v := ?_) (a' := ?_) #[true, true, true, false, false, false, false, false] rfl rfl (by kernel_rfl) (fun _ _ _ h => h) (Or.inl ⟨by rfl, ?_⟩) ?_ ?_
              rotate_left
              · intro w'
                go_simp
                with_reducible rfl
              rotate_left
              · simp only [Act.put, List.setIfInBounds_toArray, List.set_cons_zero, List.set_cons_succ, i64_w, nP.out]
                rfl
              refine pure_ (i := 3) (N := some 36) (v := ?_) (a' := ?_) #[true, true, true, true, false, false, false, false] rfl rfl (by kernel_rfl) (fun _ _ _ h => h) (Or.inl ⟨by rfl, ?_⟩) ?_ ?_
              rotate_left
              · intro w'
                go_simp
                with_reducible rfl
              rotate_left
              · simp only [Act.put, List.setIfInBounds_toArray, List.set_cons_zero, List.set_cons_succ]
                rfl
              refine pure_ (i := 4) (N := some 37) (v := ?_) (a' := ?_) #[true, true, true, true, true, false, false, false] rfl rfl (by kernel_rfl) (fun _ _ _ h => h) (Or.inl ⟨by rfl, ?_⟩) ?_ ?_
              rotate_left
              · intro w'
                go_simp
                with_reducible rfl
              rotate_left
              · simp only [Act.put, List.setIfInBounds_toArray, List.set_cons_zero, List.set_cons_succ]
                rfl
              refine pure_ (i := 5) (N := some 38) (v := ?_) (a' := ?_) #[true, true, true, true, true, true, false, false] rfl rfl (by kernel_rfl) (fun _ _ _ h => h) (Or.inl ⟨by rfl, ?_⟩) ?_ ?_
              rotate_left
              · intro w'
                go_simp
                with_reducible rfl
              rotate_left
              · simp only [Act.put, List.setIfInBounds_toArray, List.set_cons_zero, List.set_cons_succ]
                rfl
              refine pure_ (i := 6) (N := some 39) (v := ?_) (a' := ?_) #[true, true, true, true, true, true, true, false] rfl rfl (by kernel_rfl) (fun _ _ _ h => h) (Or.inl ⟨by rfl, ?_⟩) ?_ ?_
              rotate_left
              · intro w'
                go_simp
                with_reducible rfl
              rotate_left
              · simp only [Act.put, List.setIfInBounds_toArray, List.set_cons_zero, List.set_cons_succ]
                rfl
              refine one_ (i := 7) (N := some 40) #[true, true, true, true, true, true, true, true] rfl rfl (by kernel_rfl) (by decide) (fun K hK => ?_)
              refine step_copyE rfl rfl (.tmp 36) (.tmp 39) 25 25 rfl _ _ HV1.out HV2.out hrun ?_
              refine hK.out _ _ trivial (fun hHeld => ?_)
              clear hK K
              refine norm_ (a' := ?_) ?_ ?_
              rotate_left
              · show Act.put _ (some 40) _ = _
                simp only [Act.put, List.setIfInBounds_toArray, List.set_cons_zero, List.set_cons_succ]
                rfl
              refine done_ (by kernel_rfl) ?_
              have HS5 : Aside0 (∀ e' : El, (ac4.take ((j + 1) + 1) ++ (ac4.drop (j + 1)).take (acc.length - (j + 1))).set (j + 1) e' = acc.take (j + 1) ++ e' :: acc.drop (j + 1)) := ⟨fun e' => by rw [← hac.out]; exact put_at HPN.out⟩
              have HK5 : Aside0 (∀ e ∈ acc, Ke w W5 e) := ⟨fun e he => ((HK4.out e he).below (pw_below_drewN (Below.refl _ _) 1)).grown hg5 (fun g hg => by obtain rfl := Option.some.inj hg; exact ⟨hb4, cells4, blk_drew hh4⟩)⟩
              have Bb5 := (hg5.block gb (blk_lt (blk_drew Bb4)) (fun e => hgne (Option.some.inj e))).trans (blk_drew Bb4)
              have HBW5 := below_grown (below_step HBW4 (pw_below_drewN (Below.refl W4.heap.size W4) 1)) hg5 (fun b hb => by obtain rfl := Option.some.inj hb; exact hb4)
              have HL5 : Aside0 ((ac4.take ((j + 1) + 1) ++ (ac4.drop (j + 1)).take (acc.length - (j + 1))).length = acc.length + 1) := ⟨by rw [List.length_append, List.length_take, List.length_take, List.length_drop, HL4.out]; have := HPN.out; omega⟩
              generalize hL5 : ac4.take ((j + 1) + 1) ++ (ac4.drop (j + 1)).take (acc.length - (j + 1)) = L5 at HR6 HS5 HL5
              clear hL5
              have HR5' := HR6
              have HT5 : ∃ cells, W5.heap[ad4.block]? = some (.cells cells 39 (0, 0)) := by obtain ⟨cur, h, _⟩ := R_cells HR6; exact ⟨cur, h⟩
              generalize (if c4 = ((j : Int) + 1 + 1).toNat then some ad4 else some (ad4.add (((j : Int) + 1 + 1).toNat * 4))) = X36
              try generalize (if c4 = j + 1 then some ad4 else some (ad4.add ((j + 1) * 4))) = X39
              obtain ⟨e0, he0⟩ := elC HR5' (j + 1) (by have := HL5.out; omega)
              have HE0 := Aside0.mk he0
              clear he0
              have hs5 : ((j : Int) + 1) < (ac4.length : Int) := by have := HL4.out; omega
              have bx0 := (blk_cell Bb5 0).trans rfl
              have bx1 := (blk_cell Bb5 1).trans rfl
              have bx2 := (blk_cell Bb5 2).trans rfl
              have bx3 := (blk_cell Bb5 3).trans rfl
              have hcn := copyRegion_callsN Ar cr r 0 W5 (Kd.C_below gr.out HBW5) (by omega) (IntWalk.i64_in _ (by have := hrg.1; unfold rng at hrg; omega)) (IntWalk.i64_in _ (by unfold rng at hrg; omega))
              simp only [Int.add_zero] at hcn
              have HCN := Aside0.mk hcn
              clear hcn
              go_wp2_with (first | (go_at_call 54; refine HCN.out.mono ?_; rintro ee W6 ⟨v6, rfl, hR6k, hb6⟩; obtain ⟨A6, c6, rfl⟩ := Kd.R_slice hR6k) | (refine gate_ (.store 39 (.tmp 45) (.tmp 44)) rfl ?_; refine Kd.R_store kE (w0 := W6) (W := W6) w.heap.size rfl rfl 39 (.tmp 45) (.tmp 44) rfl 39 (g := ad4.block) (n := acc.length + 1) (cap := c4) (o' := (j + 1) * 4) (((j + 1) : Nat) : Int) 0 L5 (r, A6, c6) (.agg (enE (r, A6, c6)).toArray) (enE (r, A6, c6)) (enE e0) (fun _ => True) (fun _ => False) (by first | (show Value.pointer (some (ad4.add ((j + 1) * 4))) = _; rw [adz HZ4.out]) | (show Value.pointer (some ad4) = _; rw [Nat.zero_mul, ← HZ4.out])) (by simp [kE]) rfl rfl info39s (fun q hq => kE.K_one (w := W6) (x := (r, A6, c6)) rfl q hq) (Kd.R_below HR5' hb6) (by omega) (by omega) rfl (fun j u hu => pw_cell_below hb6 (by simpa [kE] using HE0.out j u hu)) (by simp [kE, enE]) rfl (fun _ h => h.elim) (Below.refl _ _) ?_; intro W7 hR7 _ hg7))
              obtain ⟨cells6, hT6⟩ := HT5
              have HT6 := blk_below hT6 hb6
              have HROWG : ∀ g, some ad4.block = some g → w.heap.size ≤ g ∧ ∃ cells, W6.heap[g]? = some (.cells cells 39 (0, 0)) := fun g hg => by obtain rfl := Option.some.inj hg; exact ⟨hb4, cells6, HT6⟩
              have HKN : ∀ x ∈ acc.take (j + 1) ++ (r, A6, c6) :: acc.drop (j + 1), Ke w W7 x := fun x hx => (mem_put hx).elim (fun h => ((HK5.out x h).below hb6).grown hg7 HROWG) (fun h => by subst h; exact (Ke.made (e := (r, A6, c6)) hR6k).grown hg7 HROWG)
              have HLN : ∀ x ∈ acc.take (j + 1) ++ (r, A6, c6) :: acc.drop (j + 1), x.1.f3.length ≤ x.2.2 := fun x hx => (mem_put hx).elim (fun h => HKE.out.2 x h) (fun h => by subst h; exact (R_CK hR6k).1)
              have HBN := below_grown (below_step HBW5 hb6) hg7 (fun b hb => (HROWG b hb).1)
              have HRN : kE.R 39 W7 w.heap.size (fun _ => True) (.slice (some ad4) (acc.take (j + 1) ++ (r, A6, c6) :: acc.drop (j + 1)).length c4) (acc.take (j + 1) ++ (r, A6, c6) :: acc.drop (j + 1)) := by
                have h := hR7
                rw [Int.toNat_natCast, HS5.out, ← len_put (e := (r, A6, c6)) hp4, ← HZ4.out] at h
                exact h
              exact ⟨⟨k + 1, acc.take (j + 1) ++ (r, A6, c6) :: acc.drop (j + 1), some ad4, c4, by omega, by go_num, by rw [len_put hp4, HL4.out], ⟨putR_at hlp.out HM.out hrr.out HPos.out rfl⟩, ⟨by rw [len_put hp4, HL.out]⟩, ⟨HRN⟩, ⟨⟨HKN, HLN⟩⟩, ⟨HBN⟩⟩, by simp [intOf] <;> omega⟩
    · obtain rfl : k = l.length := by omega
      have hfin := rows_K (n := 0) HROW.out HKE.out.1 HKE.out.2
      rw [HM.out, HL.out, List.take_of_length_le (Nat.le_refl _)] at hfin
      obtain ⟨A', c', e1, e2, e3⟩ := hfin
      injection e1 with f1 f2 f3
      subst f1 f3
      have HF := Aside0.mk e3
      have HC := Aside0.mk e2
      have HL2 := HL.out
      clear e3 e2 HM HL HROW HKE
      go_wp2
      go_ret
      exact ⟨Av, cv, rfl, HC.out, HF.out, HB.out⟩
set_option maxHeartbeats 16000000 in
set_option maxRecDepth 100000 in
theorem rSortRegions_calls (A : Option Addr) (c : Nat) (l : List S39) (w : World) (hr : Kd.C k39 w A l.length l) (hle : l.length ≤ 2513169434843) (hpl : ∀ r ∈ l, r.f3.length ≤ 4398046510976) (hrng : ∀ r ∈ l, rng r.f1 ∧ rng r.f2) :
    Calls Try.prog 28 #[.slice A l.length c] w fun e w' => ∃ A' c', e = .returned (.slice A' l.length c') ∧ l.length ≤ c' ∧ k39.C w' A' l.length (sortR l) ∧ Below w.heap.size w w' := by
  have hu39 := Try.underlying39
  have HR := Aside0.mk hr
  have HPL := Aside0.mk hpl
  have HRG := Aside0.mk hrng
  clear hr hpl hrng
  go_enter Try.func28, Try.ntmps28
  go_wp2
  go_loopw [3, 9] (fun v i wr => ∃ (k : Nat) (acc : List El) (Av : Option Addr) (cv : Nat), k ≤ l.length ∧ i = .int .i64 k ∧ v = .slice Av acc.length cv ∧ Aside0 (acc.map (·.1) = sortR (l.take k)) ∧ Aside0 (acc.length = k) ∧ Aside0 (kE.R 39 wr w.heap.size (fun _ => True) (.slice Av acc.length cv) acc) ∧ Aside0 ((∀ e ∈ acc, Ke w wr e) ∧ ∀ e ∈ acc, e.1.f3.length ≤ e.2.2) ∧ Aside0 (Below w.heap.size w wr)) (fun _ i _ => l.length - (intOf i).toNat)
  case atStart => exact ⟨0, [], none, 0, Nat.zero_le _, rfl, rfl, ⟨rfl⟩, ⟨rfl⟩, ⟨Kd.R_nil _ _ _ _ _⟩, ⟨⟨fun _ he => (List.not_mem_nil he).elim, fun _ he => (List.not_mem_nil he).elim⟩⟩, bel_refl _⟩
  case round =>
    rename World => W1
    obtain ⟨k, acc, Av, cv, hk, rfl, rfl, HM, HL, HROW, HKE, HB⟩ := hrel
    by_cases hlt : k < l.length
    · obtain ⟨ad, r, Ar, cr, rfl, -, hrr, q0, q1, q2, q3, lr, gr⟩ := el39 HR HB k hlt
      have hmem := List.mem_of_getElem? hrr.out
      have hal : acc.length + 1 ≤ 2513169434843 := by have := HL.out; omega
      have hrl := HPL.out r hmem
      have hrg := HRG.out r hmem
      go_upto_block 2 with fail
      have Bb := blk_new W1 (.cells #[.string r.f0, .int .i64 r.f1, .int .i64 r.f2, .slice Ar r.f3.length cr] 39)
      have HA := below_alloc (Below.refl W1.heap.size W1) (.cells #[.string r.f0, .int .i64 r.f1, .int .i64 r.f2, .slice Ar r.f3.length cr] 39)
      have HBU := below_step HB.out HA
      have HRU := Kd.R_below HROW.out HA
      have HKU : Aside0 (∀ e ∈ acc, Ke w (W1.alloc (.cells #[.string r.f0, .int .i64 r.f1, .int .i64 r.f2, .slice Ar r.f3.length cr] 39)) e) := ⟨fun e he => (HKE.out.1 e he).below HA⟩
      have hgw : w.heap.size ≤ W1.heap.size := HB.out.size
      generalize W1.alloc (.cells #[.string r.f0, .int .i64 r.f1, .int .i64 r.f2, .slice Ar r.f3.length cr] 39) = U at Bb HBU HRU HKU ⊢
      have hlt0 : ∀ b, (Value.slice Av acc.length cv).ownBlock = some b → b < W1.heap.size := (Kd.R_own HROW.out).elim fun _ h => own_lt h
      generalize W1.heap.size = gb at Bb hgw hlt0 ⊢
      clear HA HB HROW q0 q1 q2 q3
      have HU := bel_refl U
      generalize hlp : acc.map (·.1) = lp at HM
      replace hlp := Aside0.mk hlp
      have hacl : acc.length = lp.length := by rw [← hlp.out, List.length_map]
      have HACL := Aside0.mk hacl
      clear hacl
      go_wp2
      go_loopw [6] (fun t wr => ∃ i : Nat, i ≤ acc.length ∧ t = .int .i64 i ∧ Aside0 (posR r lp lp.length = posR r lp i) ∧ Aside0 (Below U.heap.size U wr)) (fun t _ => (intOf t).toNat)
      case atStart => exact ⟨acc.length, Nat.le_refl _, rfl, ⟨by rw [HACL.out]⟩, HU⟩
      case round =>
        rename World => W2
        obtain ⟨i, hi, rfl, HP, HB2⟩ := hrel
        have HRW := Kd.R_below HRU HB2.out
        have HKW : Aside0 (∀ e ∈ acc, Ke w W2 e) := ⟨fun e he => (HKU.out e he).below HB2.out⟩
        have BbW := blk_below Bb HB2.out
        cases i with
        | zero =>
          go_wp2
          refine start_ (n := 12) (S := fun w' => True) (ds := []) #[false, false, false, false, false, false, false, false, false, false, false, false] (by kernel_rfl) rfl rfl trivial (fun hHeld => ?_)
          refine pure_ (i := 0) (N := some 15) (v := ?_) (a' := ?_) #[true, false, false, false, false, false, false, false, false, false, false, false] rfl rfl (by kernel_rfl) (fun _ _ _ h => h) (Or.inl ⟨by rfl, ?_⟩) ?_ ?_
          rotate_left
          · intro w'
            go_simp
            with_reducible rfl
          rotate_left
          · simp only [Act.put, List.setIfInBounds_toArray, List.set_cons_zero, List.set_cons_succ]
            rfl
          refine pure_ (i := 1) (N := some 16) (v := ?_) (a' := ?_) #[true, true, false, false, false, false, false, false, false, false, false, false] rfl rfl (by kernel_rfl) (fun _ _ _ h => h) (Or.inl ⟨by rfl, ?_⟩) ?_ ?_
          rotate_left
          · intro w'
            go_simp
            with_reducible rfl
          rotate_left
          · simp only [Act.put, List.setIfInBounds_toArray, List.set_cons_zero, List.set_cons_succ]
            rfl
          refine pure_ (i := 2) (N := some 17) (v := ?_) (a' := ?_) #[true, true, true, false, false, false, false, false, false, false, false, false] rfl rfl (by kernel_rfl) (fun _ _ _ h => h) (Or.inl ⟨by rfl, ?_⟩) ?_ ?_
          rotate_left
          · intro w'
            go_simp
            with_reducible rfl
          rotate_left
          · simp only [Act.put, List.setIfInBounds_toArray, List.set_cons_zero, List.set_cons_succ]
            rfl
          refine pure_ (i := 3) (N := some 18) (v := undef) (a' := ?_) #[true, true, true, true, false, false, false, false, false, false, false, false] rfl rfl (by kernel_rfl) (fun _ _ _ h => h) (Or.inr ⟨by rfl, rfl⟩) ?_ ?_
          rotate_left
          · simp only [Act.put, List.setIfInBounds_toArray, List.set_cons_zero, List.set_cons_succ]
            rfl
          refine pure_ (i := 4) (N := some 19) (v := undef) (a' := ?_) #[true, true, true, true, true, false, false, false, false, false, false, false] rfl rfl (by kernel_rfl) (fun _ _ _ h => h) (Or.inr ⟨by rfl, rfl⟩) ?_ ?_
          rotate_left
          · simp only [Act.put, List.setIfInBounds_toArray, List.set_cons_zero, List.set_cons_succ]
            rfl
          refine pure_ (i := 5) (N := some 20) (v := undef) (a' := ?_) #[true, true, true, true, true, true, false, false, false, false, false, false] rfl rfl (by kernel_rfl) (fun _ _ _ h => h) (Or.inr ⟨by rfl, rfl⟩) ?_ ?_
          rotate_left
          · simp only [Act.put, List.setIfInBounds_toArray, List.set_cons_zero, List.set_cons_succ]
            rfl
          refine pure_ (i := 6) (N := some 21) (v := undef) (a' := ?_) #[true, true, true, true, true, true, true, false, false, false, false, false] rfl rfl (by kernel_rfl) (fun _ _ _ h => h) (Or.inr ⟨by rfl, rfl⟩) ?_ ?_
          rotate_left
          · simp only [Act.put, List.setIfInBounds_toArray, List.set_cons_zero, List.set_cons_succ]
            rfl
          refine pure_ (i := 7) (N := some 22) (v := undef) (a' := ?_) #[true, true, true, true, true, true, true, true, false, false, false, false] rfl rfl (by kernel_rfl) (fun _ _ _ h => h) (Or.inr ⟨by rfl, rfl⟩) ?_ ?_
          rotate_left
          · simp only [Act.put, List.setIfInBounds_toArray, List.set_cons_zero, List.set_cons_succ]
            rfl
          refine pure_ (i := 8) (N := some 23) (v := undef) (a' := ?_) #[true, true, true, true, true, true, true, true, true, false, false, false] rfl rfl (by kernel_rfl) (fun _ _ _ h => h) (Or.inr ⟨by rfl, rfl⟩) ?_ ?_
          rotate_left
          · simp only [Act.put, List.setIfInBounds_toArray, List.set_cons_zero, List.set_cons_succ]
            rfl
          refine pure_ (i := 9) (N := some 24) (v := undef) (a' := ?_) #[true, true, true, true, true, true, true, true, true, true, false, false] rfl rfl (by kernel_rfl) (fun _ _ _ h => h) (Or.inr ⟨by rfl, rfl⟩) ?_ ?_
          rotate_left
          · simp only [Act.put, List.setIfInBounds_toArray, List.set_cons_zero, List.set_cons_succ]
            rfl
          refine pure_ (i := 10) (N := some 25) (v := undef) (a' := ?_) #[true, true, true, true, true, true, true, true, true, true, true, false] rfl rfl (by kernel_rfl) (fun _ _ _ h => h) (Or.inr ⟨by rfl, rfl⟩) ?_ ?_
          rotate_left
          · simp only [Act.put, List.setIfInBounds_toArray, List.set_cons_zero, List.set_cons_succ]
            rfl
          refine pure_ (i := 11) (N := some 26) (v := ?_) (a' := ?_) #[true, true, true, true, true, true, true, true, true, true, true, true] rfl rfl (by kernel_rfl) (fun _ _ _ h => h) (Or.inl ⟨by rfl, ?_⟩) ?_ ?_
          rotate_left
          · intro w'
            go_simp
            with_reducible rfl
          rotate_left
          · simp only [Act.put, List.setIfInBounds_toArray, List.set_cons_zero, List.set_cons_succ]
            rfl
          refine done_ (by kernel_rfl) ?_
          have HB3 : Below U.heap.size U W2.drew := below_step HB2.out (pw_below_drewN (Below.refl _ _) 1)
          have HPos : Aside0 (posR r lp lp.length = 0) := HP
          clear HRW HKW BbW HB2 HP
          generalize W2.drew = W3 at HB3 ⊢
          have HR3 := Kd.R_below HRU HB3
          have HK3 : Aside0 (∀ e ∈ acc, Ke w W3 e) := ⟨fun e he => (HKU.out e he).below HB3⟩
          have Bb3 := blk_below Bb HB3
          have HBW3 := below_step HBU HB3
          have hty : ∀ g, (Value.slice Av acc.length cv).ownBlock = some g → w.heap.size ≤ g ∧ ∃ cells, W3.heap[g]? = some (.cells cells 39 (0, 0)) := (Kd.R_own HR3).elim fun _ h g hg => ⟨own_base h g hg, own_typed h g hg⟩
          have hws3 := HBW3.size
          go_wp2_with (at_builtin; refine Kd.R_append kE (w0 := W3) (W := W3) w.heap.size rfl (.tmp 29) (.tmp 31) 25 39 _ 56 rfl Try.underlying25 info39 rfl (by decide) (by decide) (.slice Av acc.length cv) acc (z39, none, 0) (enE (z39, none, 0)) (fun _ => True) (fun k => some k ≠ (Value.slice Av acc.length cv).ownBlock) rfl rfl rfl (fun _ h => ⟨trivial, h⟩) (fun _ _ => trivial) HR3 (Below.refl _ _) hws3 (by omega) ?_; intro v4 W4 hR4 _ hg4 hat4; generalize hac : acc ++ [(z39, none, 0)] = ac4 at hR4; replace hac := Aside0.mk hac; obtain ⟨A4, c4, rfl⟩ := Kd.R_slice hR4)
          have hl4 : ac4.length = acc.length + 1 := by rw [← hac.out]; simp
          have HL4 := Aside0.mk hl4
          obtain ⟨ad4, rfl, hz4, -, hc4, hb4, ⟨cells4, hh4⟩⟩ := R_some hR4 (by omega)
          have HZ4 := Aside0.mk hz4
          have HK4 : Aside0 (∀ e ∈ acc, Ke w W4 e) := ⟨fun e he => (HK3.out e he).grown hg4 hty⟩
          have Bb4 := (hg4.block gb (blk_lt Bb3) (fun e => by have := hlt0 gb e.symm; omega)).trans Bb3
          have HBW4 := below_grown HBW3 hg4 (fun b hb => (hty b hb).1)
          have hgne : gb ≠ ad4.block := by
            rcases hat4 with h | ⟨b, h, hb⟩
            · have := hlt0 ad4.block h.symm; omega
            · have e1 : ad4.block = b := by simpa [Value.ownBlock] using h
              have := blk_lt Bb3; omega
          clear hat4 hz4 HR3 HK3 Bb3 HBW3 hty hg4 HB3 HRU HKU Bb HBU hlt0
          have hp4 : 0 ≤ acc.length := by omega
          have nP : Aside0 (Go.RowKit.wrap64 (1 : Int) = (1 : Int)) := ⟨by rw [← i64_w]; exact IntWalk.i64_in _ (by omega)⟩
          have hs0 : 0 ≤ (1 : Int) := by omega
          have hs1 : (1 : Int) ≤ (ac4.length : Int) := by omega
          have hs2 : (0 : Int) ≤ (ac4.length : Int) := by omega
          have hs4 : (0 : Int) ≤ 0 := by omega
          have hs3 : (0 : Int) ≤ (ac4.length : Int) := by omega
          clear hl4
          by_cases hend : 0 = acc.length
          · have HEND := Aside0.mk hend
            clear hend
            have HR5 := Kd.R_below hR4 (pw_below_drewN (Below.refl _ _) 1 : Below W4.heap.size W4 (W4.drewN 1))
            change Kd.R _ _ W4.drew _ _ _ _ at HR5
            refine start_ (n := 8) (S := fun w' => True) (ds := []) #[false, false, false, false, false, false, false, false] (by kernel_rfl) rfl rfl trivial (fun hHeld => ?_)
            refine pure_ (i := 0) (N := some 33) (v := ?_) (a' := ?_) #[true, false, false, false, false, false, false, false] rfl rfl (by kernel_rfl) (fun _ _ _ h => h) (Or.inl ⟨by rfl, ?_⟩) ?_ ?_
            rotate_left
            · intro w'
              go_simp
              with_reducible rfl
            rotate_left
            · simp only [Act.put, List.setIfInBounds_toArray, List.set_cons_zero, List.set_cons_succ]
              rfl
            refine pure_ (i := 1) (N := some 34) (v := ?_) (a' := ?_) #[true, true, false, false, false, false, false, false] rfl rfl (by kernel_rfl) (fun _ _ _ h => h) (Or.inl ⟨by rfl, ?_⟩) ?_ ?_
            rotate_left
            · intro w'
              go_simp
              with_reducible rfl
            rotate_left
            · simp only [Act.put, List.setIfInBounds_toArray, List.set_cons_zero, List.set_cons_succ]
              rfl
            refine pure_ (i := 2) (N := some 35) (v := ?_) (a' := ?_) #[true, true, true, false, false, false, false, false] rfl rfl (by kernel_rfl) (fun _ _ _ h => h) (Or.inl ⟨by rfl, ?_⟩) ?_ ?_
            rotate_left
            · intro w'
              go_simp
              with_reducible rfl
            rotate_left
            · simp only [Act.put, List.setIfInBounds_toArray, List.set_cons_zero, List.set_cons_succ, i64_w, nP.out]
              rfl
            refine pure_ (i := 3) (N := some 36) (v := ?_) (a' := ?_) #[true, true, true, true, false, false, false, false] rfl rfl (by kernel_rfl) (fun _ _ _ h => h) (Or.inl ⟨by rfl, ?_⟩) ?_ ?_
            rotate_left
            · intro w'
              go_simp
              with_reducible rfl
            rotate_left
            · simp only [Act.put, List.setIfInBounds_toArray, List.set_cons_zero, List.set_cons_succ]
              rfl
            refine pure_ (i := 4) (N := some 37) (v := ?_) (a' := ?_) #[true, true, true, true, true, false, false, false] rfl rfl (by kernel_rfl) (fun _ _ _ h => h) (Or.inl ⟨by rfl, ?_⟩) ?_ ?_
            rotate_left
            · intro w'
              go_simp
              with_reducible rfl
            rotate_left
            · simp only [Act.put, List.setIfInBounds_toArray, List.set_cons_zero, List.set_cons_succ]
              rfl
            refine pure_ (i := 5) (N := some 38) (v := ?_) (a' := ?_) #[true, true, true, true, true, true, false, false] rfl rfl (by kernel_rfl) (fun _ _ _ h => h) (Or.inl ⟨by rfl, ?_⟩) ?_ ?_
            rotate_left
            · intro w'
              go_simp
              with_reducible rfl
            rotate_left
            · simp only [Act.put, List.setIfInBounds_toArray, List.set_cons_zero, List.set_cons_succ]
              rfl
            refine pure_ (i := 6) (N := some 39) (v := ?_) (a' := ?_) #[true, true, true, true, true, true, true, false] rfl rfl (by kernel_rfl) (fun _ _ _ h => h) (Or.inl ⟨by rfl, ?_⟩) ?_ ?_
            rotate_left
            · intro w'
              go_simp
              with_reducible rfl
            rotate_left
            · simp only [Act.put, List.setIfInBounds_toArray, List.set_cons_zero, List.set_cons_succ]
              rfl
            refine one_ (i := 7) (N := some 40) #[true, true, true, true, true, true, true, true] rfl rfl (by kernel_rfl) (by decide) (fun K hK => ?_)
            refine step_copyE rfl rfl (.tmp 36) (.tmp 39) 25 25 rfl _ _ rfl rfl (run_copy4_none W4.drew 25 25 _ 39 _ _ _ _ _ _ Try.underlying25 info39s (by have := HL4.out; have := HEND.out; show min _ _ = 0; omega)) ?_
            refine hK.out _ _ trivial (fun hHeld => ?_)
            clear hK K
            refine norm_ (a' := ?_) ?_ ?_
            rotate_left
            · show Act.put _ (some 40) _ = _
              simp only [Act.put, List.setIfInBounds_toArray, List.set_cons_zero, List.set_cons_succ]
              rfl
            refine done_ (by kernel_rfl) ?_
            have HS5 : Aside0 (∀ e' : El, ac4.set 0 e' = acc.take 0 ++ e' :: acc.drop 0) := ⟨fun e' => by have h := @put_end acc (z39, none, 0) e'; rw [hac.out, ← HEND.out] at h; exact h⟩
            have HK5 : Aside0 (∀ e ∈ acc, Ke w W4.drew e) := ⟨fun e he => (HK4.out e he).below (pw_below_drewN (Below.refl _ _) 1)⟩
            have Bb5 := blk_drew Bb4
            have HBW5 : Below w.heap.size w W4.drew := below_step HBW4 (pw_below_drewN (Below.refl _ _) 1)
            have HT5 : ∃ cells, W4.drew.heap[ad4.block]? = some (.cells cells 39 (0, 0)) := ⟨cells4, blk_drew hh4⟩
            generalize W4.drew = W5 at HR5 HK5 Bb5 HBW5 HT5 ⊢
            have HL5 : Aside0 (ac4.length = acc.length + 1) := HL4
            obtain ⟨L5, hL5⟩ : ∃ L5, L5 = ac4 := ⟨_, rfl⟩
            rw [← hL5] at HR5 HS5 HL5
            clear hL5
            have HR5' : kE.R 39 W5 w.heap.size (fun _ => True) (.slice (some ⟨ad4.block, 0, none⟩) (acc.length + 1) c4) L5 := by
              rw [HL5.out] at HR5
              exact HZ4.out ▸ HR5
            generalize (if c4 = 1 then some ad4 else some ⟨ad4.block, ad4.off + 4, none⟩) = X36
            obtain ⟨e0, he0⟩ := elC HR5' 0 (by have := HL5.out; omega)
            have HE0 := Aside0.mk he0
            clear he0
            have hs5 : (0 : Int) < (ac4.length : Int) := by have := HL4.out; omega
            have bx0 := (blk_cell Bb5 0).trans rfl
            have bx1 := (blk_cell Bb5 1).trans rfl
            have bx2 := (blk_cell Bb5 2).trans rfl
            have bx3 := (blk_cell Bb5 3).trans rfl
            go_wp2_with (refine gate_ (.store 39 (.tmp 44) (.tmp 43)) rfl ?_; refine Kd.R_store kE (w0 := W5) (W := W5) w.heap.size rfl rfl 39 (.tmp 44) (.tmp 43) rfl 39 (g := ad4.block) (n := acc.length + 1) (cap := c4) (o' := 0 * 4) ((0 : Nat) : Int) 0 L5 (r, Ar, cr) (.agg (enE (r, Ar, cr)).toArray) (enE (r, Ar, cr)) (enE e0) (fun _ => True) (fun _ => False) (by first | (show Value.pointer (some (ad4.add (0 * 4))) = _; rw [adz HZ4.out]) | (show Value.pointer (some ad4) = _; rw [Nat.zero_mul, ← HZ4.out])) (by simp [kE]) rfl rfl info39s (fun q hq => kE.K_one (w := W5) (x := (r, Ar, cr)) rfl q hq) HR5' (by omega) (by omega) rfl (fun j u hu => by simpa [kE] using HE0.out j u hu) (by simp [kE, enE]) rfl (fun _ h => h.elim) (Below.refl _ _) ?_; intro W7 hR7 _ hg7)
            obtain ⟨cells6, HT6⟩ := HT5
            have HROWG : ∀ g, some ad4.block = some g → w.heap.size ≤ g ∧ ∃ cells, W5.heap[g]? = some (.cells cells 39 (0, 0)) := fun g hg => by obtain rfl := Option.some.inj hg; exact ⟨hb4, cells6, HT6⟩
            have HKN : ∀ x ∈ acc.take 0 ++ (r, Ar, cr) :: acc.drop 0, Ke w W7 x := fun x hx => (mem_put hx).elim (fun h => (HK5.out x h).grown hg7 HROWG) (fun h => by subst h; exact ((Ke.came (e := (r, Ar, cr)) gr.out).below HBW5).grown hg7 HROWG)
            have HLN : ∀ x ∈ acc.take 0 ++ (r, Ar, cr) :: acc.drop 0, x.1.f3.length ≤ x.2.2 := fun x hx => (mem_put hx).elim (fun h => HKE.out.2 x h) (fun h => by subst h; exact lr.out)
            have HBN := below_grown HBW5 hg7 (fun b hb => (HROWG b hb).1)
            have HRN : kE.R 39 W7 w.heap.size (fun _ => True) (.slice (some ad4) (acc.take 0 ++ (r, Ar, cr) :: acc.drop 0).length c4) (acc.take 0 ++ (r, Ar, cr) :: acc.drop 0) := by
              have h := hR7
              rw [Int.toNat_natCast, HS5.out, ← len_put (e := (r, Ar, cr)) hp4, ← HZ4.out] at h
              exact h
            exact ⟨⟨k + 1, acc.take 0 ++ (r, Ar, cr) :: acc.drop 0, some ad4, c4, by omega, by go_num, by rw [len_put hp4, HL4.out], ⟨putR_at hlp.out HM.out hrr.out HPos.out rfl⟩, ⟨by rw [len_put hp4, HL.out]⟩, ⟨HRN⟩, ⟨⟨HKN, HLN⟩⟩, ⟨HBN⟩⟩, by simp [intOf] <;> omega⟩
          · have HEND := Aside0.mk hend
            clear hend
            have HR5 := Kd.R_below hR4 (pw_below_drewN (Below.refl _ _) 1 : Below W4.heap.size W4 (W4.drewN 1))
            change Kd.R _ _ W4.drew _ _ _ _ at HR5
            have hz4 := HZ4.out
            have hl4 := HL4.out
            have hpn : 0 < acc.length := by have := HEND.out; omega
            have HR5' := HR5
            rw [hl4, hz4] at HR5'
            obtain ⟨W5, hrun, HR6, hg5⟩ := run_shift (p := 0) (n := acc.length) (ty := 3) HR5' hpn Try.underlying25 info39s (c4 - 1) c4
            have hv1 : (Value.slice (if c4 = 1 then some ad4 else some ⟨ad4.block, ad4.off + 4, none⟩) (ac4.length - 1) (c4 - 1)) = .slice (some ⟨ad4.block, (0 + 1) * 4, none⟩) (acc.length - 0) (c4 - 1) := by
              rw [if_neg (by omega), hl4]
              rw [hz4]; simp
            have hv2 : (Value.slice (some ad4) ac4.length c4) = .slice (some ⟨ad4.block, 0 * 4, none⟩) (acc.length + 1 - 0) c4 := by
              rw [hz4, hl4]; simp
            have HV1 := Aside0.mk hv1
            have HV2 := Aside0.mk hv2
            have HPN := Aside0.mk hpn
            clear hz4 hl4 HR5' hv1 hv2 hpn
            refine start_ (n := 8) (S := fun w' => True) (ds := []) #[false, false, false, false, false, false, false, false] (by kernel_rfl) rfl rfl trivial (fun hHeld => ?_)
            refine pure_ (i := 0) (N := some 33) (v := ?_) (a' := ?_) #[true, false, false, false, false, false, false, false] rfl rfl (by kernel_rfl) (fun _ _ _ h => h) (Or.inl ⟨by rfl, ?_⟩) ?_ ?_
            rotate_left
            · intro w'
              go_simp
              with_reducible rfl
            rotate_left
            · simp only [Act.put, List.setIfInBounds_toArray, List.set_cons_zero, List.set_cons_succ]
              rfl
            refine pure_ (i := 1) (N := some 34) (v := ?_) (a' := ?_) #[true, true, false, false, false, false, false, false] rfl rfl (by kernel_rfl) (fun _ _ _ h => h) (Or.inl ⟨by rfl, ?_⟩) ?_ ?_
            rotate_left
            · intro w'
              go_simp
              with_reducible rfl
            rotate_left
            · simp only [Act.put, List.setIfInBounds_toArray, List.set_cons_zero, List.set_cons_succ]
              rfl
            refine pure_ (i := 2) (N := some 35) (v := ?_) (a' := ?_) #[true, true, true, false, false, false, false, false] rfl rfl (by kernel_rfl) (fun _ _ _ h => h) (Or.inl ⟨by rfl, ?_⟩) ?_ ?_
            rotate_left
            · intro w'
              go_simp
              with_reducible rfl
            rotate_left
            · simp only [Act.put, List.setIfInBounds_toArray, List.set_cons_zero, List.set_cons_succ, i64_w, nP.out]
              rfl
            refine pure_ (i := 3) (N := some 36) (v := ?_) (a' := ?_) #[true, true, true, true, false, false, false, false] rfl rfl (by kernel_rfl) (fun _ _ _ h => h) (Or.inl ⟨by rfl, ?_⟩) ?_ ?_
            rotate_left
            · intro w'
              go_simp
              with_reducible rfl
            rotate_left
            · simp only [Act.put, List.setIfInBounds_toArray, List.set_cons_zero, List.set_cons_succ]
              rfl
            refine pure_ (i := 4) (N := some 37) (v := ?_) (a' := ?_) #[true, true, true, true, true, false, false, false] rfl rfl (by kernel_rfl) (fun _ _ _ h => h) (Or.inl ⟨by rfl, ?_⟩) ?_ ?_
            rotate_left
            · intro w'
              go_simp
              with_reducible rfl
            rotate_left
            · simp only [Act.put, List.setIfInBounds_toArray, List.set_cons_zero, List.set_cons_succ]
              rfl
            refine pure_ (i := 5) (N := some 38) (v := ?_) (a' := ?_) #[true, true, true, true, true, true, false, false] rfl rfl (by kernel_rfl) (fun _ _ _ h => h) (Or.inl ⟨by rfl, ?_⟩) ?_ ?_
            rotate_left
            · intro w'
              go_simp
              with_reducible rfl
            rotate_left
            · simp only [Act.put, List.setIfInBounds_toArray, List.set_cons_zero, List.set_cons_succ]
              rfl
            refine pure_ (i := 6) (N := some 39) (v := ?_) (a' := ?_) #[true, true, true, true, true, true, true, false] rfl rfl (by kernel_rfl) (fun _ _ _ h => h) (Or.inl ⟨by rfl, ?_⟩) ?_ ?_
            rotate_left
            · intro w'
              go_simp
              with_reducible rfl
            rotate_left
            · simp only [Act.put, List.setIfInBounds_toArray, List.set_cons_zero, List.set_cons_succ]
              rfl
            refine one_ (i := 7) (N := some 40) #[true, true, true, true, true, true, true, true] rfl rfl (by kernel_rfl) (by decide) (fun K hK => ?_)
            refine step_copyE rfl rfl (.tmp 36) (.tmp 39) 25 25 rfl _ _ HV1.out HV2.out hrun ?_
            refine hK.out _ _ trivial (fun hHeld => ?_)
            clear hK K
            refine norm_ (a' := ?_) ?_ ?_
            rotate_left
            · show Act.put _ (some 40) _ = _
              simp only [Act.put, List.setIfInBounds_toArray, List.set_cons_zero, List.set_cons_succ]
              rfl
            refine done_ (by kernel_rfl) ?_
            have HS5 : Aside0 (∀ e' : El, (ac4.take (0 + 1) ++ (ac4.drop 0).take (acc.length - 0)).set 0 e' = acc.take 0 ++ e' :: acc.drop 0) := ⟨fun e' => by rw [← hac.out]; exact put_at HPN.out⟩
            have HK5 : Aside0 (∀ e ∈ acc, Ke w W5 e) := ⟨fun e he => ((HK4.out e he).below (pw_below_drewN (Below.refl _ _) 1)).grown hg5 (fun g hg => by obtain rfl := Option.some.inj hg; exact ⟨hb4, cells4, blk_drew hh4⟩)⟩
            have Bb5 := (hg5.block gb (blk_lt (blk_drew Bb4)) (fun e => hgne (Option.some.inj e))).trans (blk_drew Bb4)
            have HBW5 := below_grown (below_step HBW4 (pw_below_drewN (Below.refl W4.heap.size W4) 1)) hg5 (fun b hb => by obtain rfl := Option.some.inj hb; exact hb4)
            have HL5 : Aside0 ((ac4.take (0 + 1) ++ (ac4.drop 0).take (acc.length - 0)).length = acc.length + 1) := ⟨by rw [List.length_append, List.length_take, List.length_take, List.length_drop, HL4.out]; have := HPN.out; omega⟩
            generalize hL5 : ac4.take (0 + 1) ++ (ac4.drop 0).take (acc.length - 0) = L5 at HR6 HS5 HL5
            clear hL5
            have HR5' := HR6
            have HT5 : ∃ cells, W5.heap[ad4.block]? = some (.cells cells 39 (0, 0)) := by obtain ⟨cur, h, _⟩ := R_cells HR6; exact ⟨cur, h⟩
            generalize (if c4 = 1 then some ad4 else some ⟨ad4.block, ad4.off + 4, none⟩) = X36
            obtain ⟨e0, he0⟩ := elC HR5' 0 (by have := HL5.out; omega)
            have HE0 := Aside0.mk he0
            clear he0
            have hs5 : (0 : Int) < (ac4.length : Int) := by have := HL4.out; omega
            have bx0 := (blk_cell Bb5 0).trans rfl
            have bx1 := (blk_cell Bb5 1).trans rfl
            have bx2 := (blk_cell Bb5 2).trans rfl
            have bx3 := (blk_cell Bb5 3).trans rfl
            go_wp2_with (refine gate_ (.store 39 (.tmp 44) (.tmp 43)) rfl ?_; refine Kd.R_store kE (w0 := W5) (W := W5) w.heap.size rfl rfl 39 (.tmp 44) (.tmp 43) rfl 39 (g := ad4.block) (n := acc.length + 1) (cap := c4) (o' := 0 * 4) ((0 : Nat) : Int) 0 L5 (r, Ar, cr) (.agg (enE (r, Ar, cr)).toArray) (enE (r, Ar, cr)) (enE e0) (fun _ => True) (fun _ => False) (by first | (show Value.pointer (some (ad4.add (0 * 4))) = _; rw [adz HZ4.out]) | (show Value.pointer (some ad4) = _; rw [Nat.zero_mul, ← HZ4.out])) (by simp [kE]) rfl rfl info39s (fun q hq => kE.K_one (w := W5) (x := (r, Ar, cr)) rfl q hq) HR5' (by omega) (by omega) rfl (fun j u hu => by simpa [kE] using HE0.out j u hu) (by simp [kE, enE]) rfl (fun _ h => h.elim) (Below.refl _ _) ?_; intro W7 hR7 _ hg7)
            obtain ⟨cells6, HT6⟩ := HT5
            have HROWG : ∀ g, some ad4.block = some g → w.heap.size ≤ g ∧ ∃ cells, W5.heap[g]? = some (.cells cells 39 (0, 0)) := fun g hg => by obtain rfl := Option.some.inj hg; exact ⟨hb4, cells6, HT6⟩
            have HKN : ∀ x ∈ acc.take 0 ++ (r, Ar, cr) :: acc.drop 0, Ke w W7 x := fun x hx => (mem_put hx).elim (fun h => (HK5.out x h).grown hg7 HROWG) (fun h => by subst h; exact ((Ke.came (e := (r, Ar, cr)) gr.out).below HBW5).grown hg7 HROWG)
            have HLN : ∀ x ∈ acc.take 0 ++ (r, Ar, cr) :: acc.drop 0, x.1.f3.length ≤ x.2.2 := fun x hx => (mem_put hx).elim (fun h => HKE.out.2 x h) (fun h => by subst h; exact lr.out)
            have HBN := below_grown HBW5 hg7 (fun b hb => (HROWG b hb).1)
            have HRN : kE.R 39 W7 w.heap.size (fun _ => True) (.slice (some ad4) (acc.take 0 ++ (r, Ar, cr) :: acc.drop 0).length c4) (acc.take 0 ++ (r, Ar, cr) :: acc.drop 0) := by
              have h := hR7
              rw [Int.toNat_natCast, HS5.out, ← len_put (e := (r, Ar, cr)) hp4, ← HZ4.out] at h
              exact h
            exact ⟨⟨k + 1, acc.take 0 ++ (r, Ar, cr) :: acc.drop 0, some ad4, c4, by omega, by go_num, by rw [len_put hp4, HL4.out], ⟨putR_at hlp.out HM.out hrr.out HPos.out rfl⟩, ⟨by rw [len_put hp4, HL.out]⟩, ⟨HRN⟩, ⟨⟨HKN, HLN⟩⟩, ⟨HBN⟩⟩, by simp [intOf] <;> omega⟩
        | succ j =>
          obtain ⟨ad, e, rfl, hee, p0, p1, p2, p3⟩ := elE HRW j (by omega)
          have hy := lp_at hlp.out hee.out
          have HY := Aside0.mk hy
          clear hy
          have hke := HKW.out e (List.mem_of_getElem? hee.out)
          have HKe := Aside0.mk (Kd.F_now hke)
          clear hke
          have hjl : j < acc.length := by omega
          have nJ : Aside0 (Go.RowKit.wrap64 (j : Int) = j) := ⟨by rw [← i64_w]; exact IntWalk.i64_in _ (by omega)⟩
          by_cases hq : cmpR r e.1 < 0
          · have HQ := Aside0.mk hq
            have hd : decide (0 < cmpR e.1 r) = true := decide_eq_true (by rw [ordR.anti r e.1]; omega)
            go_wp2
            have HKe1 : Aside0 (k70.C W2.drew e.2.1 e.1.f3.length e.1.f3) := ⟨Kd.C_below HKe.out (pw_below_drewN (Below.refl _ _) 1)⟩
            have HBW : Below w.heap.size w W2.drew := below_step (below_step HBU HB2.out) (pw_below_drewN (Below.refl _ _) 1)
            have HBU2 : Below U.heap.size U W2.drew := below_step HB2.out (pw_below_drewN (Below.refl _ _) 1)
            replace BbW := blk_drew BbW
            replace p0 := pw_cell_below (pw_below_drewN (Below.refl W2.heap.size W2) 1) p0
            replace p1 := pw_cell_below (pw_below_drewN (Below.refl W2.heap.size W2) 1) p1
            replace p2 := pw_cell_below (pw_below_drewN (Below.refl W2.heap.size W2) 1) p2
            replace p3 := pw_cell_below (pw_below_drewN (Below.refl W2.heap.size W2) 1) p3
            change W2.drew.cell? _ = _ at p0 p1 p2 p3
            clear HRW HKW HKe
            refine start_ (n := 12) (S := fun w' => w'.cell? ⟨gb, 0, none⟩ = some (.string r.f0) ∧ w'.cell? ⟨gb, 1, none⟩ = some (.int .i64 r.f1) ∧ w'.cell? ⟨gb, 2, none⟩ = some (.int .i64 r.f2) ∧ w'.cell? ⟨gb, 3, none⟩ = some (.slice Ar r.f3.length cr) ∧ w'.cell? (ad.add (j * 4)) = some (.string e.1.f0) ∧ w'.cell? ⟨(ad.add (j * 4)).block, (ad.add (j * 4)).off + 1, none⟩ = some (.int .i64 e.1.f1) ∧ w'.cell? ⟨(ad.add (j * 4)).block, (ad.add (j * 4)).off + 2, none⟩ = some (.int .i64 e.1.f2) ∧ w'.cell? ⟨(ad.add (j * 4)).block, (ad.add (j * 4)).off + 3, none⟩ = some (.slice e.2.1 e.1.f3.length e.2.2)) (ds := []) #[false, false, false, false, false, false, false, false, false, false, false, false] (by kernel_rfl) rfl rfl ⟨(blk_cell BbW 0).trans rfl, (blk_cell BbW 1).trans rfl, (blk_cell BbW 2).trans rfl, (blk_cell BbW 3).trans rfl, p0, p1, p2, p3⟩ (fun hHeld => ?_)
            generalize W2.drew = U1 at HKe1 HBW HBU2 BbW p0 p1 p2 p3 hHeld ⊢
            refine pure_ (i := 0) (N := some 15) (v := ?_) (a' := ?_) #[true, false, false, false, false, false, false, false, false, false, false, false] rfl rfl (by kernel_rfl) (fun _ _ _ h => h) (Or.inl ⟨by rfl, ?_⟩) ?_ ?_
            rotate_left
            · intro w'
              go_simp
              with_reducible rfl
            rotate_left
            · simp only [Act.put, List.setIfInBounds_toArray, List.set_cons_zero, List.set_cons_succ]
              rfl
            refine pure_ (i := 1) (N := some 16) (v := ?_) (a' := ?_) #[true, true, false, false, false, false, false, false, false, false, false, false] rfl rfl (by kernel_rfl) (fun _ _ _ h => h) (Or.inl ⟨by rfl, ?_⟩) ?_ ?_
            rotate_left
            · intro w'
              go_simp
              with_reducible rfl
            rotate_left
            · simp only [Act.put, List.setIfInBounds_toArray, List.set_cons_zero, List.set_cons_succ]
              rfl
            refine pure_ (i := 2) (N := some 17) (v := ?_) (a' := ?_) #[true, true, true, false, false, false, false, false, false, false, false, false] rfl rfl (by kernel_rfl) (fun _ _ _ h => h) (Or.inl ⟨by rfl, ?_⟩) ?_ ?_
            rotate_left
            · intro w'
              go_simp
              with_reducible rfl
            rotate_left
            · simp only [Act.put, List.setIfInBounds_toArray, List.set_cons_zero, List.set_cons_succ]
              rfl
            refine pure_ (i := 3) (N := some 18) (v := ?_) (a' := ?_) #[true, true, true, true, false, false, false, false, false, false, false, false] rfl rfl (by kernel_rfl) (fun _ _ _ h => h) (Or.inl ⟨by rfl, ?_⟩) ?_ ?_
            rotate_left
            · intro w'
              go_simp
              with_reducible rfl
            rotate_left
            · simp only [Act.put, List.setIfInBounds_toArray, List.set_cons_zero, List.set_cons_succ]
              rfl
            refine pure_ (i := 4) (N := some 19) (v := ?_) (a' := ?_) #[true, true, true, true, true, false, false, false, false, false, false, false] rfl rfl (by kernel_rfl) (fun _ _ _ h => h) (Or.inl ⟨by rfl, ?_⟩) ?_ ?_
            rotate_left
            · intro w'
              go_simp
              with_reducible rfl
            rotate_left
            · simp only [Act.put, List.setIfInBounds_toArray, List.set_cons_zero, List.set_cons_succ]
              rfl
            refine pure_ (i := 5) (N := some 20) (v := ?_) (a' := ?_) #[true, true, true, true, true, true, false, false, false, false, false, false] rfl rfl (by kernel_rfl) (fun _ _ _ h => h) (Or.inl ⟨by rfl, ?_⟩) ?_ ?_
            rotate_left
            · intro w'
              go_simp
              with_reducible rfl
            rotate_left
            · simp only [Act.put, List.setIfInBounds_toArray, List.set_cons_zero, List.set_cons_succ, i64_w, nJ.out]
              rfl
            refine pure_ (i := 6) (N := some 21) (v := ?_) (a' := ?_) #[true, true, true, true, true, true, true, false, false, false, false, false] rfl rfl (by kernel_rfl) (fun _ _ _ h => h) (Or.inl ⟨by rfl, ?_⟩) ?_ ?_
            rotate_left
            · intro w'
              go_simp
              with_reducible rfl
            rotate_left
            · simp only [Act.put, List.setIfInBounds_toArray, List.set_cons_zero, List.set_cons_succ]
              rfl
            refine take_ (i := 7) (N := some 22) (v := ?_) (a' := ?_) #[true, true, true, true, true, true, true, true, false, false, false, false] rfl rfl (by kernel_rfl) (fun _ _ _ h => h) (Or.inl ⟨by rfl, ?_⟩) hHeld ?_ ?_
            rotate_left
            · rintro w' ⟨s0, s1, s2, s3, s4, s5, s6, s7⟩
              go_simp
              with_reducible rfl
            rotate_left
            · simp only [Act.put, List.setIfInBounds_toArray, List.set_cons_zero, List.set_cons_succ]
              rfl
            refine take_ (i := 8) (N := some 23) (v := ?_) (a' := ?_) #[true, true, true, true, true, true, true, true, true, false, false, false] rfl rfl (by kernel_rfl) (fun _ _ _ h => h) (Or.inl ⟨by rfl, ?_⟩) hHeld ?_ ?_
            rotate_left
            · rintro w' ⟨s0, s1, s2, s3, s4, s5, s6, s7⟩
              go_simp
              with_reducible rfl
            rotate_left
            · simp only [Act.put, List.setIfInBounds_toArray, List.set_cons_zero, List.set_cons_succ]
              rfl
            refine one_ (i := 9) (N := some 24) #[true, true, true, true, true, true, true, true, true, true, false, false] rfl rfl (by kernel_rfl) (by decide) (fun K hK => ?_)
            refine goes_ Try.func19 (by kernel_rfl) rfl #[.agg #[.string e.1.f0, .int .i64 e.1.f1, .int .i64 e.1.f2, .slice e.2.1 e.1.f3.length e.2.2], .agg #[.string r.f0, .int .i64 r.f1, .int .i64 r.f2, .slice Ar r.f3.length cr]] (by rfl) rfl rfl (by simp only [List.map_toArray, List.map_cons, List.map_nil]; rfl) ?_
            with_reducible refine (rCompareRegions_calls e.1 r e.2.1 Ar e.2.2 cr U1 HKe1.out (Kd.C_below gr.out HBW)).mono ?_
            rintro ee U2 ⟨rfl, hb⟩
            replace HBW := below_step HBW hb
            replace HBU2 := below_step HBU2 hb
            replace BbW := blk_below BbW hb
            replace p0 := pw_cell_below hb p0
            replace p1 := pw_cell_below hb p1
            replace p2 := pw_cell_below hb p2
            replace p3 := pw_cell_below hb p3
            clear hb
            refine ⟨_, rfl, ?_⟩
            refine hK.out _ _ ⟨(blk_cell BbW 0).trans rfl, (blk_cell BbW 1).trans rfl, (blk_cell BbW 2).trans rfl, (blk_cell BbW 3).trans rfl, p0, p1, p2, p3⟩ (fun hHeld => ?_)
            clear hK K
            refine norm_ (a' := ?_) ?_ ?_
            rotate_left
            · show Act.put _ (some 24) _ = _
              simp only [Act.put, List.setIfInBounds_toArray, List.set_cons_zero, List.set_cons_succ]
              rfl
            refine pure_ (i := 10) (N := some 25) (v := ?_) (a' := ?_) #[true, true, true, true, true, true, true, true, true, true, true, false] rfl rfl (by kernel_rfl) (fun _ _ _ h => h) (Or.inl ⟨by rfl, ?_⟩) ?_ ?_
            rotate_left
            · intro w'
              go_simp
              with_reducible rfl
            rotate_left
            · simp only [Act.put, List.setIfInBounds_toArray, List.set_cons_zero, List.set_cons_succ]
              rfl
            refine pure_ (i := 11) (N := some 26) (v := ?_) (a' := ?_) #[true, true, true, true, true, true, true, true, true, true, true, true] rfl rfl (by kernel_rfl) (fun _ _ _ h => h) (Or.inl ⟨by rfl, ?_⟩) ?_ ?_
            rotate_left
            · intro w'
              go_simp
              with_reducible rfl
            rotate_left
            · simp only [Act.put, List.setIfInBounds_toArray, List.set_cons_zero, List.set_cons_succ]
              rfl
            refine done_ (by kernel_rfl) ?_
            go_wp2_with fail
            go_roundw
            case rel => exact ⟨j, by omega, by go_num, ⟨HP.out.trans (posR_go HY.out (by have := HQ.out; omega))⟩, ⟨HBU2⟩⟩
            case measure => simp [intOf] <;> omega
          · have HQ := Aside0.mk hq
            have hd : decide (0 < cmpR e.1 r) = false := decide_eq_false (by rw [ordR.anti r e.1]; omega)
            go_wp2
            have HKe1 : Aside0 (k70.C W2.drew e.2.1 e.1.f3.length e.1.f3) := ⟨Kd.C_below HKe.out (pw_below_drewN (Below.refl _ _) 1)⟩
            have HBW : Below w.heap.size w W2.drew := below_step (below_step HBU HB2.out) (pw_below_drewN (Below.refl _ _) 1)
            have HBU2 : Below U.heap.size U W2.drew := below_step HB2.out (pw_below_drewN (Below.refl _ _) 1)
            replace BbW := blk_drew BbW
            replace p0 := pw_cell_below (pw_below_drewN (Below.refl W2.heap.size W2) 1) p0
            replace p1 := pw_cell_below (pw_below_drewN (Below.refl W2.heap.size W2) 1) p1
            replace p2 := pw_cell_below (pw_below_drewN (Below.refl W2.heap.size W2) 1) p2
            replace p3 := pw_cell_below (pw_below_drewN (Below.refl W2.heap.size W2) 1) p3
            change W2.drew.cell? _ = _ at p0 p1 p2 p3
            clear HRW HKW HKe
            refine start_ (n := 12) (S := fun w' => w'.cell? ⟨gb, 0, none⟩ = some (.string r.f0) ∧ w'.cell? ⟨gb, 1, none⟩ = some (.int .i64 r.f1) ∧ w'.cell? ⟨gb, 2, none⟩ = some (.int .i64 r.f2) ∧ w'.cell? ⟨gb, 3, none⟩ = some (.slice Ar r.f3.length cr) ∧ w'.cell? (ad.add (j * 4)) = some (.string e.1.f0) ∧ w'.cell? ⟨(ad.add (j * 4)).block, (ad.add (j * 4)).off + 1, none⟩ = some (.int .i64 e.1.f1) ∧ w'.cell? ⟨(ad.add (j * 4)).block, (ad.add (j * 4)).off + 2, none⟩ = some (.int .i64 e.1.f2) ∧ w'.cell? ⟨(ad.add (j * 4)).block, (ad.add (j * 4)).off + 3, none⟩ = some (.slice e.2.1 e.1.f3.length e.2.2)) (ds := []) #[false, false, false, false, false, false, false, false, false, false, false, false] (by kernel_rfl) rfl rfl ⟨(blk_cell BbW 0).trans rfl, (blk_cell BbW 1).trans rfl, (blk_cell BbW 2).trans rfl, (blk_cell BbW 3).trans rfl, p0, p1, p2, p3⟩ (fun hHeld => ?_)
            generalize W2.drew = U1 at HKe1 HBW HBU2 BbW p0 p1 p2 p3 hHeld ⊢
            refine pure_ (i := 0) (N := some 15) (v := ?_) (a' := ?_) #[true, false, false, false, false, false, false, false, false, false, false, false] rfl rfl (by kernel_rfl) (fun _ _ _ h => h) (Or.inl ⟨by rfl, ?_⟩) ?_ ?_
            rotate_left
            · intro w'
              go_simp
              with_reducible rfl
            rotate_left
            · simp only [Act.put, List.setIfInBounds_toArray, List.set_cons_zero, List.set_cons_succ]
              rfl
            refine pure_ (i := 1) (N := some 16) (v := ?_) (a' := ?_) #[true, true, false, false, false, false, false, false, false, false, false, false] rfl rfl (by kernel_rfl) (fun _ _ _ h => h) (Or.inl ⟨by rfl, ?_⟩) ?_ ?_
            rotate_left
            · intro w'
              go_simp
              with_reducible rfl
            rotate_left
            · simp only [Act.put, List.setIfInBounds_toArray, List.set_cons_zero, List.set_cons_succ]
              rfl
            refine pure_ (i := 2) (N := some 17) (v := ?_) (a' := ?_) #[true, true, true, false, false, false, false, false, false, false, false, false] rfl rfl (by kernel_rfl) (fun _ _ _ h => h) (Or.inl ⟨by rfl, ?_⟩) ?_ ?_
            rotate_left
            · intro w'
              go_simp
              with_reducible rfl
            rotate_left
            · simp only [Act.put, List.setIfInBounds_toArray, List.set_cons_zero, List.set_cons_succ]
              rfl
            refine pure_ (i := 3) (N := some 18) (v := ?_) (a' := ?_) #[true, true, true, true, false, false, false, false, false, false, false, false] rfl rfl (by kernel_rfl) (fun _ _ _ h => h) (Or.inl ⟨by rfl, ?_⟩) ?_ ?_
            rotate_left
            · intro w'
              go_simp
              with_reducible rfl
            rotate_left
            · simp only [Act.put, List.setIfInBounds_toArray, List.set_cons_zero, List.set_cons_succ]
              rfl
            refine pure_ (i := 4) (N := some 19) (v := ?_) (a' := ?_) #[true, true, true, true, true, false, false, false, false, false, false, false] rfl rfl (by kernel_rfl) (fun _ _ _ h => h) (Or.inl ⟨by rfl, ?_⟩) ?_ ?_
            rotate_left
            · intro w'
              go_simp
              with_reducible rfl
            rotate_left
            · simp only [Act.put, List.setIfInBounds_toArray, List.set_cons_zero, List.set_cons_succ]
              rfl
            refine pure_ (i := 5) (N := some 20) (v := ?_) (a' := ?_) #[true, true, true, true, true, true, false, false, false, false, false, false] rfl rfl (by kernel_rfl) (fun _ _ _ h => h) (Or.inl ⟨by rfl, ?_⟩) ?_ ?_
            rotate_left
            · intro w'
              go_simp
              with_reducible rfl
            rotate_left
            · simp only [Act.put, List.setIfInBounds_toArray, List.set_cons_zero, List.set_cons_succ, i64_w, nJ.out]
              rfl
            refine pure_ (i := 6) (N := some 21) (v := ?_) (a' := ?_) #[true, true, true, true, true, true, true, false, false, false, false, false] rfl rfl (by kernel_rfl) (fun _ _ _ h => h) (Or.inl ⟨by rfl, ?_⟩) ?_ ?_
            rotate_left
            · intro w'
              go_simp
              with_reducible rfl
            rotate_left
            · simp only [Act.put, List.setIfInBounds_toArray, List.set_cons_zero, List.set_cons_succ]
              rfl
            refine take_ (i := 7) (N := some 22) (v := ?_) (a' := ?_) #[true, true, true, true, true, true, true, true, false, false, false, false] rfl rfl (by kernel_rfl) (fun _ _ _ h => h) (Or.inl ⟨by rfl, ?_⟩) hHeld ?_ ?_
            rotate_left
            · rintro w' ⟨s0, s1, s2, s3, s4, s5, s6, s7⟩
              go_simp
              with_reducible rfl
            rotate_left
            · simp only [Act.put, List.setIfInBounds_toArray, List.set_cons_zero, List.set_cons_succ]
              rfl
            refine take_ (i := 8) (N := some 23) (v := ?_) (a' := ?_) #[true, true, true, true, true, true, true, true, true, false, false, false] rfl rfl (by kernel_rfl) (fun _ _ _ h => h) (Or.inl ⟨by rfl, ?_⟩) hHeld ?_ ?_
            rotate_left
            · rintro w' ⟨s0, s1, s2, s3, s4, s5, s6, s7⟩
              go_simp
              with_reducible rfl
            rotate_left
            · simp only [Act.put, List.setIfInBounds_toArray, List.set_cons_zero, List.set_cons_succ]
              rfl
            refine one_ (i := 9) (N := some 24) #[true, true, true, true, true, true, true, true, true, true, false, false] rfl rfl (by kernel_rfl) (by decide) (fun K hK => ?_)
            refine goes_ Try.func19 (by kernel_rfl) rfl #[.agg #[.string e.1.f0, .int .i64 e.1.f1, .int .i64 e.1.f2, .slice e.2.1 e.1.f3.length e.2.2], .agg #[.string r.f0, .int .i64 r.f1, .int .i64 r.f2, .slice Ar r.f3.length cr]] (by rfl) rfl rfl (by simp only [List.map_toArray, List.map_cons, List.map_nil]; rfl) ?_
            with_reducible refine (rCompareRegions_calls e.1 r e.2.1 Ar e.2.2 cr U1 HKe1.out (Kd.C_below gr.out HBW)).mono ?_
            rintro ee U2 ⟨rfl, hb⟩
            replace HBW := below_step HBW hb
            replace HBU2 := below_step HBU2 hb
            replace BbW := blk_below BbW hb
            replace p0 := pw_cell_below hb p0
            replace p1 := pw_cell_below hb p1
            replace p2 := pw_cell_below hb p2
            replace p3 := pw_cell_below hb p3
            clear hb
            refine ⟨_, rfl, ?_⟩
            refine hK.out _ _ ⟨(blk_cell BbW 0).trans rfl, (blk_cell BbW 1).trans rfl, (blk_cell BbW 2).trans rfl, (blk_cell BbW 3).trans rfl, p0, p1, p2, p3⟩ (fun hHeld => ?_)
            clear hK K
            refine norm_ (a' := ?_) ?_ ?_
            rotate_left
            · show Act.put _ (some 24) _ = _
              simp only [Act.put, List.setIfInBounds_toArray, List.set_cons_zero, List.set_cons_succ]
              rfl
            refine pure_ (i := 10) (N := some 25) (v := ?_) (a' := ?_) #[true, true, true, true, true, true, true, true, true, true, true, false] rfl rfl (by kernel_rfl) (fun _ _ _ h => h) (Or.inl ⟨by rfl, ?_⟩) ?_ ?_
            rotate_left
            · intro w'
              go_simp
              with_reducible rfl
            rotate_left
            · simp only [Act.put, List.setIfInBounds_toArray, List.set_cons_zero, List.set_cons_succ]
              rfl
            refine pure_ (i := 11) (N := some 26) (v := ?_) (a' := ?_) #[true, true, true, true, true, true, true, true, true, true, true, true] rfl rfl (by kernel_rfl) (fun _ _ _ h => h) (Or.inl ⟨by rfl, ?_⟩) ?_ ?_
            rotate_left
            · intro w'
              go_simp
              with_reducible rfl
            rotate_left
            · simp only [Act.put, List.setIfInBounds_toArray, List.set_cons_zero, List.set_cons_succ]
              rfl
            refine done_ (by kernel_rfl) ?_
            have HB3 := HBU2
            have HPos : Aside0 (posR r lp lp.length = j + 1) := ⟨HP.out.trans (posR_stop HY.out (by have := HQ.out; omega))⟩
            clear HBW HBU2 BbW p0 p1 p2 p3 HP HB2 HY hee
            generalize U2 = W3 at HB3 ⊢
            have HR3 := Kd.R_below HRU HB3
            have HK3 : Aside0 (∀ e ∈ acc, Ke w W3 e) := ⟨fun e he => (HKU.out e he).below HB3⟩
            have Bb3 := blk_below Bb HB3
            have HBW3 := below_step HBU HB3
            have hty : ∀ g, (Value.slice (some ad) acc.length cv).ownBlock = some g → w.heap.size ≤ g ∧ ∃ cells, W3.heap[g]? = some (.cells cells 39 (0, 0)) := (Kd.R_own HR3).elim fun _ h g hg => ⟨own_base h g hg, own_typed h g hg⟩
            have hws3 := HBW3.size
            go_wp2_with (at_builtin; refine Kd.R_append kE (w0 := W3) (W := W3) w.heap.size rfl (.tmp 29) (.tmp 31) 25 39 _ 56 rfl Try.underlying25 info39 rfl (by decide) (by decide) (.slice (some ad) acc.length cv) acc (z39, none, 0) (enE (z39, none, 0)) (fun _ => True) (fun k => some k ≠ (Value.slice (some ad) acc.length cv).ownBlock) rfl rfl rfl (fun _ h => ⟨trivial, h⟩) (fun _ _ => trivial) HR3 (Below.refl _ _) hws3 (by omega) ?_; intro v4 W4 hR4 _ hg4 hat4; generalize hac : acc ++ [(z39, none, 0)] = ac4 at hR4; replace hac := Aside0.mk hac; obtain ⟨A4, c4, rfl⟩ := Kd.R_slice hR4)
            have hl4 : ac4.length = acc.length + 1 := by rw [← hac.out]; simp
            have HL4 := Aside0.mk hl4
            obtain ⟨ad4, rfl, hz4, -, hc4, hb4, ⟨cells4, hh4⟩⟩ := R_some hR4 (by omega)
            have HZ4 := Aside0.mk hz4
            have HK4 : Aside0 (∀ e ∈ acc, Ke w W4 e) := ⟨fun e he => (HK3.out e he).grown hg4 hty⟩
            have Bb4 := (hg4.block gb (blk_lt Bb3) (fun e => by have := hlt0 gb e.symm; omega)).trans Bb3
            have HBW4 := below_grown HBW3 hg4 (fun b hb => (hty b hb).1)
            have hgne : gb ≠ ad4.block := by
              rcases hat4 with h | ⟨b, h, hb⟩
              · have := hlt0 ad4.block h.symm; omega
              · have e1 : ad4.block = b := by simpa [Value.ownBlock] using h
                have := blk_lt Bb3; omega
            clear hat4 hz4 HR3 HK3 Bb3 HBW3 hty hg4 HB3 HRU HKU Bb HBU hlt0
            have hp4 : (j + 1) ≤ acc.length := by omega
            have nP : Aside0 (Go.RowKit.wrap64 ((j : Int) + 1 + 1) = ((j : Int) + 1 + 1)) := ⟨by rw [← i64_w]; exact IntWalk.i64_in _ (by omega)⟩
            have hs0 : 0 ≤ ((j : Int) + 1 + 1) := by omega
            have hs1 : ((j : Int) + 1 + 1) ≤ (ac4.length : Int) := by omega
            have hs2 : (0 : Int) ≤ (ac4.length : Int) := by omega
            have hs4 : (0 : Int) ≤ (j : Int) + 1 := by omega
            have hs3 : (((j : Int) + 1) : Int) ≤ (ac4.length : Int) := by omega
            clear hl4
            by_cases hend : (j + 1) = acc.length
            · have HEND := Aside0.mk hend
              clear hend
              have HR5 := Kd.R_below hR4 (pw_below_drewN (Below.refl _ _) 1 : Below W4.heap.size W4 (W4.drewN 1))
              change Kd.R _ _ W4.drew _ _ _ _ at HR5
              refine start_ (n := 8) (S := fun w' => True) (ds := []) #[false, false, false, false, false, false, false, false] (by kernel_rfl) rfl rfl trivial (fun hHeld => ?_)
              refine pure_ (i := 0) (N := some 33) (v := ?_) (a' := ?_) #[true, false, false, false, false, false, false, false] rfl rfl (by kernel_rfl) (fun _ _ _ h => h) (Or.inl ⟨by rfl, ?_⟩) ?_ ?_
              rotate_left
              · intro w'
                go_simp
                with_reducible rfl
              rotate_left
              · simp only [Act.put, List.setIfInBounds_toArray, List.set_cons_zero, List.set_cons_succ]
                rfl
              refine pure_ (i := 1) (N := some 34) (v := ?_) (a' := ?_) #[true, true, false, false, false, false, false, false] rfl rfl (by kernel_rfl) (fun _ _ _ h => h) (Or.inl ⟨by rfl, ?_⟩) ?_ ?_
              rotate_left
              · intro w'
                go_simp
                with_reducible rfl
              rotate_left
              · simp only [Act.put, List.setIfInBounds_toArray, List.set_cons_zero, List.set_cons_succ]
                rfl
              refine pure_ (i := 2) (N := some 35) (v := ?_) (a' := ?_) #[true, true, true, false, false, false, false, false] rfl rfl (by kernel_rfl) (fun _ _ _ h => h) (Or.inl ⟨by rfl, ?_⟩) ?_ ?_
              rotate_left
              · intro w'
                go_simp
                with_reducible rfl
              rotate_left
              · simp only [Act.put, List.setIfInBounds_toArray, List.set_cons_zero, List.set_cons_succ, i64_w, nP.out]
                rfl
              refine pure_ (i := 3) (N := some 36) (v := ?_) (a' := ?_) #[true, true, true, true, false, false, false, false] rfl rfl (by kernel_rfl) (fun _ _ _ h => h) (Or.inl ⟨by rfl, ?_⟩) ?_ ?_
              rotate_left
              · intro w'
                go_simp
                with_reducible rfl
              rotate_left
              · simp only [Act.put, List.setIfInBounds_toArray, List.set_cons_zero, List.set_cons_succ]
                rfl
              refine pure_ (i := 4) (N := some 37) (v := ?_) (a' := ?_) #[true, true, true, true, true, false, false, false] rfl rfl (by kernel_rfl) (fun _ _ _ h => h) (Or.inl ⟨by rfl, ?_⟩) ?_ ?_
              rotate_left
              · intro w'
                go_simp
                with_reducible rfl
              rotate_left
              · simp only [Act.put, List.setIfInBounds_toArray, List.set_cons_zero, List.set_cons_succ]
                rfl
              refine pure_ (i := 5) (N := some 38) (v := ?_) (a' := ?_) #[true, true, true, true, true, true, false, false] rfl rfl (by kernel_rfl) (fun _ _ _ h => h) (Or.inl ⟨by rfl, ?_⟩) ?_ ?_
              rotate_left
              · intro w'
                go_simp
                with_reducible rfl
              rotate_left
              · simp only [Act.put, List.setIfInBounds_toArray, List.set_cons_zero, List.set_cons_succ]
                rfl
              refine pure_ (i := 6) (N := some 39) (v := ?_) (a' := ?_) #[true, true, true, true, true, true, true, false] rfl rfl (by kernel_rfl) (fun _ _ _ h => h) (Or.inl ⟨by rfl, ?_⟩) ?_ ?_
              rotate_left
              · intro w'
                go_simp
                with_reducible rfl
              rotate_left
              · simp only [Act.put, List.setIfInBounds_toArray, List.set_cons_zero, List.set_cons_succ]
                rfl
              refine one_ (i := 7) (N := some 40) #[true, true, true, true, true, true, true, true] rfl rfl (by kernel_rfl) (by decide) (fun K hK => ?_)
              refine step_copyE rfl rfl (.tmp 36) (.tmp 39) 25 25 rfl _ _ rfl rfl (run_copy4_none W4.drew 25 25 _ 39 _ _ _ _ _ _ Try.underlying25 info39s (by have := HL4.out; have := HEND.out; show min _ _ = 0; omega)) ?_
              refine hK.out _ _ trivial (fun hHeld => ?_)
              clear hK K
              refine norm_ (a' := ?_) ?_ ?_
              rotate_left
              · show Act.put _ (some 40) _ = _
                simp only [Act.put, List.setIfInBounds_toArray, List.set_cons_zero, List.set_cons_succ]
                rfl
              refine done_ (by kernel_rfl) ?_
              have HS5 : Aside0 (∀ e' : El, ac4.set (j + 1) e' = acc.take (j + 1) ++ e' :: acc.drop (j + 1)) := ⟨fun e' => by have h := @put_end acc (z39, none, 0) e'; rw [hac.out, ← HEND.out] at h; exact h⟩
              have HK5 : Aside0 (∀ e ∈ acc, Ke w W4.drew e) := ⟨fun e he => (HK4.out e he).below (pw_below_drewN (Below.refl _ _) 1)⟩
              have Bb5 := blk_drew Bb4
              have HBW5 : Below w.heap.size w W4.drew := below_step HBW4 (pw_below_drewN (Below.refl _ _) 1)
              have HT5 : ∃ cells, W4.drew.heap[ad4.block]? = some (.cells cells 39 (0, 0)) := ⟨cells4, blk_drew hh4⟩
              generalize W4.drew = W5 at HR5 HK5 Bb5 HBW5 HT5 ⊢
              have HL5 : Aside0 (ac4.length = acc.length + 1) := HL4
              obtain ⟨L5, hL5⟩ : ∃ L5, L5 = ac4 := ⟨_, rfl⟩
              rw [← hL5] at HR5 HS5 HL5
              clear hL5
              have HR5' : kE.R 39 W5 w.heap.size (fun _ => True) (.slice (some ⟨ad4.block, 0, none⟩) (acc.length + 1) c4) L5 := by
                rw [HL5.out] at HR5
                exact HZ4.out ▸ HR5
              generalize (if c4 = ((j : Int) + 1 + 1).toNat then some ad4 else some (ad4.add (((j : Int) + 1 + 1).toNat * 4))) = X36
              try generalize (if c4 = j + 1 then some ad4 else some (ad4.add ((j + 1) * 4))) = X39
              obtain ⟨e0, he0⟩ := elC HR5' (j + 1) (by have := HL5.out; omega)
              have HE0 := Aside0.mk he0
              clear he0
              have hs5 : ((j : Int) + 1) < (ac4.length : Int) := by have := HL4.out; omega
              have bx0 := (blk_cell Bb5 0).trans rfl
              have bx1 := (blk_cell Bb5 1).trans rfl
              have bx2 := (blk_cell Bb5 2).trans rfl
              have bx3 := (blk_cell Bb5 3).trans rfl
              go_wp2_with (refine gate_ (.store 39 (.tmp 44) (.tmp 43)) rfl ?_; refine Kd.R_store kE (w0 := W5) (W := W5) w.heap.size rfl rfl 39 (.tmp 44) (.tmp 43) rfl 39 (g := ad4.block) (n := acc.length + 1) (cap := c4) (o' := (j + 1) * 4) (((j + 1) : Nat) : Int) 0 L5 (r, Ar, cr) (.agg (enE (r, Ar, cr)).toArray) (enE (r, Ar, cr)) (enE e0) (fun _ => True) (fun _ => False) (by first | (show Value.pointer (some (ad4.add ((j + 1) * 4))) = _; rw [adz HZ4.out]) | (show Value.pointer (some ad4) = _; rw [Nat.zero_mul, ← HZ4.out])) (by simp [kE]) rfl rfl info39s (fun q hq => kE.K_one (w := W5) (x := (r, Ar, cr)) rfl q hq) HR5' (by omega) (by omega) rfl (fun j u hu => by simpa [kE] using HE0.out j u hu) (by simp [kE, enE]) rfl (fun _ h => h.elim) (Below.refl _ _) ?_; intro W7 hR7 _ hg7)
              obtain ⟨cells6, HT6⟩ := HT5
              have HROWG : ∀ g, some ad4.block = some g → w.heap.size ≤ g ∧ ∃ cells, W5.heap[g]? = some (.cells cells 39 (0, 0)) := fun g hg => by obtain rfl := Option.some.inj hg; exact ⟨hb4, cells6, HT6⟩
              have HKN : ∀ x ∈ acc.take (j + 1) ++ (r, Ar, cr) :: acc.drop (j + 1), Ke w W7 x := fun x hx => (mem_put hx).elim (fun h => (HK5.out x h).grown hg7 HROWG) (fun h => by subst h; exact ((Ke.came (e := (r, Ar, cr)) gr.out).below HBW5).grown hg7 HROWG)
              have HLN : ∀ x ∈ acc.take (j + 1) ++ (r, Ar, cr) :: acc.drop (j + 1), x.1.f3.length ≤ x.2.2 := fun x hx => (mem_put hx).elim (fun h => HKE.out.2 x h) (fun h => by subst h; exact lr.out)
              have HBN := below_grown HBW5 hg7 (fun b hb => (HROWG b hb).1)
              have HRN : kE.R 39 W7 w.heap.size (fun _ => True) (.slice (some ad4) (acc.take (j + 1) ++ (r, Ar, cr) :: acc.drop (j + 1)).length c4) (acc.take (j + 1) ++ (r, Ar, cr) :: acc.drop (j + 1)) := by
                have h := hR7
                rw [Int.toNat_natCast, HS5.out, ← len_put (e := (r, Ar, cr)) hp4, ← HZ4.out] at h
                exact h
              exact ⟨⟨k + 1, acc.take (j + 1) ++ (r, Ar, cr) :: acc.drop (j + 1), some ad4, c4, by omega, by go_num, by rw [len_put hp4, HL4.out], ⟨putR_at hlp.out HM.out hrr.out HPos.out rfl⟩, ⟨by rw [len_put hp4, HL.out]⟩, ⟨HRN⟩, ⟨⟨HKN, HLN⟩⟩, ⟨HBN⟩⟩, by simp [intOf] <;> omega⟩
            · have HEND := Aside0.mk hend
              clear hend
              have HR5 := Kd.R_below hR4 (pw_below_drewN (Below.refl _ _) 1 : Below W4.heap.size W4 (W4.drewN 1))
              change Kd.R _ _ W4.drew _ _ _ _ at HR5
              have hz4 := HZ4.out
              have hl4 := HL4.out
              have hpn : (j + 1) < acc.length := by have := HEND.out; omega
              have HR5' := HR5
              rw [hl4, hz4] at HR5'
              obtain ⟨W5, hrun, HR6, hg5⟩ := run_shift (p := (j + 1)) (n := acc.length) (ty := 3) HR5' hpn Try.underlying25 info39s (c4 - ((j : Int) + 1 + 1).toNat) (c4 - (j + 1))
              have hv1 : (Value.slice (if c4 = ((j : Int) + 1 + 1).toNat then some ad4 else some (ad4.add (((j : Int) + 1 + 1).toNat * 4))) (ac4.length - ((j : Int) + 1 + 1).toNat) (c4 - ((j : Int) + 1 + 1).toNat)) = .slice (some ⟨ad4.block, ((j + 1) + 1) * 4, none⟩) (acc.length - (j + 1)) (c4 - ((j : Int) + 1 + 1).toNat) := by
                rw [if_neg (by omega), hl4]
                rw [hz4, addJ, show ((j : Int) + 1 + 1).toNat = j + 1 + 1 by omega, Nat.zero_add, show acc.length + 1 - (j + 1 + 1) = acc.length - (j + 1) by omega]
              have hv2 : (Value.slice (if c4 = j + 1 then some ad4 else some (ad4.add ((j + 1) * 4))) (ac4.length - (j + 1)) (c4 - (j + 1))) = .slice (some ⟨ad4.block, (j + 1) * 4, none⟩) (acc.length + 1 - (j + 1)) (c4 - (j + 1)) := by
                rw [if_neg (by omega), hl4, hz4, addJ]; congr 1; simp
              have HV1 := Aside0.mk hv1
              have HV2 := Aside0.mk hv2
              have HPN := Aside0.mk hpn
              clear hz4 hl4 HR5' hv1 hv2 hpn
              refine start_ (n := 8) (S := fun w' => True) (ds := []) #[false, false, false, false, false, false, false, false] (by kernel_rfl) rfl rfl trivial (fun hHeld => ?_)
              refine pure_ (i := 0) (N := some 33) (v := ?_) (a' := ?_) #[true, false, false, false, false, false, false, false] rfl rfl (by kernel_rfl) (fun _ _ _ h => h) (Or.inl ⟨by rfl, ?_⟩) ?_ ?_
              rotate_left
              · intro w'
                go_simp
                with_reducible rfl
              rotate_left
              · simp only [Act.put, List.setIfInBounds_toArray, List.set_cons_zero, List.set_cons_succ]
                rfl
              refine pure_ (i := 1) (N := some 34) (v := ?_) (a' := ?_) #[true, true, false, false, false, false, false, false] rfl rfl (by kernel_rfl) (fun _ _ _ h => h) (Or.inl ⟨by rfl, ?_⟩) ?_ ?_
              rotate_left
              · intro w'
                go_simp
                with_reducible rfl
              rotate_left
              · simp only [Act.put, List.setIfInBounds_toArray, List.set_cons_zero, List.set_cons_succ]
                rfl
              refine pure_ (i := 2) (N := some 35) (v := ?_) (a' := ?_) #[true, true, true, false, false, false, false, false] rfl rfl (by kernel_rfl) (fun _ _ _ h => h) (Or.inl ⟨by rfl, ?_⟩) ?_ ?_
              rotate_left
              · intro w'
                go_simp
                with_reducible rfl
              rotate_left
              · simp only [Act.put, List.setIfInBounds_toArray, List.set_cons_zero, List.set_cons_succ, i64_w, nP.out]
                rfl
              refine pure_ (i := 3) (N := some 36) (v := ?_) (a' := ?_) #[true, true, true, true, false, false, false, false] rfl rfl (by kernel_rfl) (fun _ _ _ h => h) (Or.inl ⟨by rfl, ?_⟩) ?_ ?_
              rotate_left
              · intro w'
                go_simp
                with_reducible rfl
              rotate_left
              · simp only [Act.put, List.setIfInBounds_toArray, List.set_cons_zero, List.set_cons_succ]
                rfl
              refine pure_ (i := 4) (N := some 37) (v := ?_) (a' := ?_) #[true, true, true, true, true, false, false, false] rfl rfl (by kernel_rfl) (fun _ _ _ h => h) (Or.inl ⟨by rfl, ?_⟩) ?_ ?_
              rotate_left
              · intro w'
                go_simp
                with_reducible rfl
              rotate_left
              · simp only [Act.put, List.setIfInBounds_toArray, List.set_cons_zero, List.set_cons_succ]
                rfl
              refine pure_ (i := 5) (N := some 38) (v := ?_) (a' := ?_) #[true, true, true, true, true, true, false, false] rfl rfl (by kernel_rfl) (fun _ _ _ h => h) (Or.inl ⟨by rfl, ?_⟩) ?_ ?_
              rotate_left
              · intro w'
                go_simp
                with_reducible rfl
              rotate_left
              · simp only [Act.put, List.setIfInBounds_toArray, List.set_cons_zero, List.set_cons_succ]
                rfl
              refine pure_ (i := 6) (N := some 39) (v := ?_) (a' := ?_) #[true, true, true, true, true, true, true, false] rfl rfl (by kernel_rfl) (fun _ _ _ h => h) (Or.inl ⟨by rfl, ?_⟩) ?_ ?_
              rotate_left
              · intro w'
                go_simp
                with_reducible rfl
              rotate_left
              · simp only [Act.put, List.setIfInBounds_toArray, List.set_cons_zero, List.set_cons_succ]
                rfl
              refine one_ (i := 7) (N := some 40) #[true, true, true, true, true, true, true, true] rfl rfl (by kernel_rfl) (by decide) (fun K hK => ?_)
              refine step_copyE rfl rfl (.tmp 36) (.tmp 39) 25 25 rfl _ _ HV1.out HV2.out hrun ?_
              refine hK.out _ _ trivial (fun hHeld => ?_)
              clear hK K
              refine norm_ (a' := ?_) ?_ ?_
              rotate_left
              · show Act.put _ (some 40) _ = _
                simp only [Act.put, List.setIfInBounds_toArray, List.set_cons_zero, List.set_cons_succ]
                rfl
              refine done_ (by kernel_rfl) ?_
              have HS5 : Aside0 (∀ e' : El, (ac4.take ((j + 1) + 1) ++ (ac4.drop (j + 1)).take (acc.length - (j + 1))).set (j + 1) e' = acc.take (j + 1) ++ e' :: acc.drop (j + 1)) := ⟨fun e' => by rw [← hac.out]; exact put_at HPN.out⟩
              have HK5 : Aside0 (∀ e ∈ acc, Ke w W5 e) := ⟨fun e he => ((HK4.out e he).below (pw_below_drewN (Below.refl _ _) 1)).grown hg5 (fun g hg => by obtain rfl := Option.some.inj hg; exact ⟨hb4, cells4, blk_drew hh4⟩)⟩
              have Bb5 := (hg5.block gb (blk_lt (blk_drew Bb4)) (fun e => hgne (Option.some.inj e))).trans (blk_drew Bb4)
              have HBW5 := below_grown (below_step HBW4 (pw_below_drewN (Below.refl W4.heap.size W4) 1)) hg5 (fun b hb => by obtain rfl := Option.some.inj hb; exact hb4)
              have HL5 : Aside0 ((ac4.take ((j + 1) + 1) ++ (ac4.drop (j + 1)).take (acc.length - (j + 1))).length = acc.length + 1) := ⟨by rw [List.length_append, List.length_take, List.length_take, List.length_drop, HL4.out]; have := HPN.out; omega⟩
              generalize hL5 : ac4.take ((j + 1) + 1) ++ (ac4.drop (j + 1)).take (acc.length - (j + 1)) = L5 at HR6 HS5 HL5
              clear hL5
              have HR5' := HR6
              have HT5 : ∃ cells, W5.heap[ad4.block]? = some (.cells cells 39 (0, 0)) := by obtain ⟨cur, h, _⟩ := R_cells HR6; exact ⟨cur, h⟩
              generalize (if c4 = ((j : Int) + 1 + 1).toNat then some ad4 else some (ad4.add (((j : Int) + 1 + 1).toNat * 4))) = X36
              try generalize (if c4 = j + 1 then some ad4 else some (ad4.add ((j + 1) * 4))) = X39
              obtain ⟨e0, he0⟩ := elC HR5' (j + 1) (by have := HL5.out; omega)
              have HE0 := Aside0.mk he0
              clear he0
              have hs5 : ((j : Int) + 1) < (ac4.length : Int) := by have := HL4.out; omega
              have bx0 := (blk_cell Bb5 0).trans rfl
              have bx1 := (blk_cell Bb5 1).trans rfl
              have bx2 := (blk_cell Bb5 2).trans rfl
              have bx3 := (blk_cell Bb5 3).trans rfl
              go_wp2_with (refine gate_ (.store 39 (.tmp 44) (.tmp 43)) rfl ?_; refine Kd.R_store kE (w0 := W5) (W := W5) w.heap.size rfl rfl 39 (.tmp 44) (.tmp 43) rfl 39 (g := ad4.block) (n := acc.length + 1) (cap := c4) (o' := (j + 1) * 4) (((j + 1) : Nat) : Int) 0 L5 (r, Ar, cr) (.agg (enE (r, Ar, cr)).toArray) (enE (r, Ar, cr)) (enE e0) (fun _ => True) (fun _ => False) (by first | (show Value.pointer (some (ad4.add ((j + 1) * 4))) = _; rw [adz HZ4.out]) | (show Value.pointer (some ad4) = _; rw [Nat.zero_mul, ← HZ4.out])) (by simp [kE]) rfl rfl info39s (fun q hq => kE.K_one (w := W5) (x := (r, Ar, cr)) rfl q hq) HR5' (by omega) (by omega) rfl (fun j u hu => by simpa [kE] using HE0.out j u hu) (by simp [kE, enE]) rfl (fun _ h => h.elim) (Below.refl _ _) ?_; intro W7 hR7 _ hg7)
              obtain ⟨cells6, HT6⟩ := HT5
              have HROWG : ∀ g, some ad4.block = some g → w.heap.size ≤ g ∧ ∃ cells, W5.heap[g]? = some (.cells cells 39 (0, 0)) := fun g hg => by obtain rfl := Option.some.inj hg; exact ⟨hb4, cells6, HT6⟩
              have HKN : ∀ x ∈ acc.take (j + 1) ++ (r, Ar, cr) :: acc.drop (j + 1), Ke w W7 x := fun x hx => (mem_put hx).elim (fun h => (HK5.out x h).grown hg7 HROWG) (fun h => by subst h; exact ((Ke.came (e := (r, Ar, cr)) gr.out).below HBW5).grown hg7 HROWG)
              have HLN : ∀ x ∈ acc.take (j + 1) ++ (r, Ar, cr) :: acc.drop (j + 1), x.1.f3.length ≤ x.2.2 := fun x hx => (mem_put hx).elim (fun h => HKE.out.2 x h) (fun h => by subst h; exact lr.out)
              have HBN := below_grown HBW5 hg7 (fun b hb => (HROWG b hb).1)
              have HRN : kE.R 39 W7 w.heap.size (fun _ => True) (.slice (some ad4) (acc.take (j + 1) ++ (r, Ar, cr) :: acc.drop (j + 1)).length c4) (acc.take (j + 1) ++ (r, Ar, cr) :: acc.drop (j + 1)) := by
                have h := hR7
                rw [Int.toNat_natCast, HS5.out, ← len_put (e := (r, Ar, cr)) hp4, ← HZ4.out] at h
                exact h
              exact ⟨⟨k + 1, acc.take (j + 1) ++ (r, Ar, cr) :: acc.drop (j + 1), some ad4, c4, by omega, by go_num, by rw [len_put hp4, HL4.out], ⟨putR_at hlp.out HM.out hrr.out HPos.out rfl⟩, ⟨by rw [len_put hp4, HL.out]⟩, ⟨HRN⟩, ⟨⟨HKN, HLN⟩⟩, ⟨HBN⟩⟩, by simp [intOf] <;> omega⟩
    · obtain rfl : k = l.length := by omega
      have hfin := rows_K (n := 0) HROW.out HKE.out.1 HKE.out.2
      rw [HM.out, HL.out, List.take_of_length_le (Nat.le_refl _)] at hfin
      obtain ⟨A', c', e1, e2, e3⟩ := hfin
      injection e1 with f1 f2 f3
      subst f1 f3
      have HF := Aside0.mk e3
      have HC := Aside0.mk e2
      have HL2 := HL.out
      clear e3 e2 HM HL HROW HKE
      go_wp2
      go_ret
      exact ⟨Av, cv, rfl, HC.out, HF.out, HB.out⟩
end Go.Proofs.Ytkdgholmfnidkaa
