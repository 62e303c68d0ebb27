/- The units of a string (range over a function): what codepoint.Valid returns. -/
import Derived.Test.YtkdgholmfnidkaaBase
import Derived.RangeFuncKeeps
import Derived.RangeFuncLeaves
import Derived.RangeFuncCalls
import Derived.Shelf.Abstract
import Derived.OwnWalkIn
import Derived.TacticsInMore
import Derived.LoopNIn
import Derived.LoopIn
import Derived.Lib.OthersKept
import Derived.Laws.RangeAny
namespace Go.Proofs.Ytkdgholmfnidkaa
open Go.RowKit Go.Proofs.YtkdgholmfnidkaaW.PrintWords Go.Proofs.YtkdgholmfnidkaaW.PrintLast Go.Proofs.YtkdgholmfnidkaaW.PrintMore

abbrev Un := Int × Int × Int
def unitsGo (s : ByteArray) : Nat → Nat → List Un
  | 0, _ => []
  | f + 1, pos => if pos < s.size then (((Utf8.decode s pos).1 : Int), (pos : Int), ((min (pos + (Utf8.decode s pos).2) s.size : Nat) : Int) - pos) :: unitsGo s f (pos + (Utf8.decode s pos).2) else []
def unitsOf (s : ByteArray) : List Un := unitsGo s s.size 0
def okU (u : Un) : Bool := (u.1 != 65533) || (u.2.2 == 3)
def utfOK (s : ByteArray) : Bool := (unitsOf s).all okU
theorem decode_one (s : ByteArray) (pos : Nat) (h : pos < s.size) : 1 ≤ (Utf8.decode s pos).2 := by
  by_cases ha : (s[pos]'h).toNat < 128
  · rw [decode_ascii s pos h ha]; exact Nat.le_refl 1
  · exact (decode_high s pos h (by omega)).2
theorem unitsGo_fuel (s : ByteArray) : ∀ (f g pos : Nat), s.size ≤ f + pos → s.size ≤ g + pos → unitsGo s f pos = unitsGo s g pos
  | 0, 0, _, _, _ => rfl
  | 0, g + 1, pos, h, _ => by rw [unitsGo, unitsGo, if_neg (by omega)]
  | f + 1, 0, pos, _, h => by rw [unitsGo, unitsGo, if_neg (by omega)]
  | f + 1, g + 1, pos, h, h' => by
    rw [unitsGo, unitsGo]
    by_cases hp : pos < s.size
    · rw [if_pos hp, if_pos hp, unitsGo_fuel s f g _ (by have := decode_one s pos hp; omega) (by have := decode_one s pos hp; omega)]
    · rw [if_neg hp, if_neg hp]
theorem unitsGo_end (s : ByteArray) (f pos : Nat) (h : ¬ pos < s.size) : unitsGo s f pos = [] := by
  cases f with
  | zero => rfl
  | succ f => rw [unitsGo, if_neg h]
theorem unitsGo_step (s : ByteArray) (pos : Nat) (h : pos < s.size) : unitsGo s s.size pos = (((Utf8.decode s pos).1 : Int), (pos : Int), ((min (pos + (Utf8.decode s pos).2) s.size : Nat) : Int) - pos) :: unitsGo s s.size (pos + (Utf8.decode s pos).2) := by
  obtain ⟨f, hf⟩ : ∃ f, s.size = f + 1 := ⟨s.size - 1, by omega⟩
  have := decode_one s pos h
  rw [unitsGo_fuel s s.size (f + 1) pos (by omega) (by omega), unitsGo, if_pos h, unitsGo_fuel s f s.size _ (by omega) (by omega)]

theorem next_step {P : Program} (w : World) (k : Nat) (s : ByteArray) (pos : Nat) (hk : w.heap[k]? = some (.stringIter s pos)) (h : pos < s.size) :
    ∃ W1, (∀ ty, (Instr.next (.pointer (some ⟨k, 0, none⟩)) true ty).run P w = .ok (.tuple #[.bool true, .int .i64 pos, .int .i32 (Utf8.decode s pos).1]) W1) ∧ W1.heap[k]? = some (.stringIter s (pos + (Utf8.decode s pos).2)) ∧
      W1.heap.size = w.heap.size ∧ (∀ j, j ≠ k → W1.heap[j]? = w.heap[j]?) ∧ Below k w W1 :=
  ⟨_, fun ty => Lib.run_next_any_at w k s pos ty hk h, Lib.iterAt_heap w k s pos _ hk, Lib.iterAt_size _ _ _ _, fun j hj => Lib.iterAt_other w k j s _ hj, Lib.below_iterAt (Below.refl _ _) (Nat.le_refl _) _ _⟩

def encU (x : Un) : Value := .agg #[.int .i32 x.1, .int .i64 x.2.1, .int .i64 x.2.2]
theorem unitValid_in (F : Fence) (n : Nat) (hF : F.fn 97) (hro : F.round = none) (x : Un) (w : World) :
    CallsIn F n Try.prog 97 #[encU x] w fun e w' => e = .returned (.bool (okU x)) ∧ Below w.heap.size w w' := by
  have hu := Try.underlying109
  unfold encU
  refine callsIn_of_wp Try.func97 rfl hF ?_ hro
  simp only [Try.ntmps97, List.size_toArray, List.length_cons, List.length_nil, Nat.reduceAdd, Nat.reduceSub, Array.replicate_succ, Array.replicate_zero, List.push_toArray, List.append_toArray, List.nil_append, List.cons_append]
  cases h1 : x.1 != 65533
  · gi_wp2
    go_ret
    exact ⟨ret_bool (by simp [okU, h1]), below_alloc (Below.refl _ _) _⟩
  · gi_wp2
    go_ret
    exact ⟨ret_bool (by simp [okU, h1]), below_alloc (Below.refl _ _) _⟩
theorem units_in (F : Fence) (n : Nat) (hF : F.fn 96) (hro : F.round = none) (s : ByteArray) (w : World) :
    CallsIn F n Try.prog 96 #[.string s] w fun e w' => e = .returned (.func (.func 99) #[] #[.pointer (some ⟨w.heap.size, 0, none⟩)]) ∧ w.alloc (.cells #[.string s] 9) = w' := by
  refine callsIn_of_wp Try.func96 rfl hF ?_ hro
  simp only [Try.ntmps96, List.size_toArray, List.length_cons, List.length_nil, Nat.reduceAdd, Nat.reduceSub, Array.replicate_succ, Array.replicate_zero, List.push_toArray, List.append_toArray, List.nil_append, List.cons_append]
  gi_wp2
  go_ret
  exact ⟨rfl, rfl⟩
theorem bset {w W : World} {B j : Nat} {v : Value} (h : Below B w W) : Below B w (W.setCell ⟨B, j, none⟩ v) := h.setCell (p := ⟨B, j, none⟩) (Nat.le_refl _) _
attribute [local go_sem] Oper.semAt_some
set_option maxRecDepth 100000 in
set_option maxHeartbeats 2000000 in
theorem units1_in (F : Fence) (n : Nat) (hF : F.fn 99) (hro : F.round = none) (hn : 1 ≤ n) (l Bn : Nat) (s : ByteArray) (hs : s.size ≤ 140737488351232) (J Jx : List Un → World → Prop) (W : World)
    (hc : W.cell? ⟨Bn, 0, none⟩ = some (.string s)) (hb : Bn < W.heap.size)
    (hJ : ∀ pre X Y, J pre X → Below W.heap.size X Y → J pre Y)
    (hY : ∀ pre x X, J pre X → (∃ t, pre ++ x :: t = unitsOf s) → W.heap.size ≤ X.heap.size → YieldAt F (n - 1) Try.prog l #[encU x] X fun e W' =>
      (e = .returned (.bool true) ∧ J (pre ++ [x]) W' ∧ Below X.heap.size X W') ∨ (e = .returned (.bool false) ∧ Jx (pre ++ [x]) W'))
    (h0 : J [] W) :
    CallsIn F n Try.prog 99 #[.func (.yield l) #[] #[], .pointer (some ⟨Bn, 0, none⟩)] W fun e W' => (∃ v, e = .returned v) ∧ (J (unitsOf s) W' ∨ ∃ pre t, pre ++ t = unitsOf s ∧ Jx pre W') := by
  have hu := Try.underlying109
  have hu9 := Try.underlying9
  have HJ := Aside0.mk hJ
  have HY := Aside0.mk hY
  have H0 := Aside0.mk h0
  clear hJ hY h0
  refine callsIn_of_wp Try.func99 rfl hF ?_ hro
  simp only [Try.ntmps99, List.size_toArray, List.length_cons, List.length_nil, Nat.reduceAdd, Nat.reduceSub, Array.replicate_succ, Array.replicate_zero, List.push_toArray, List.append_toArray, List.nil_append, List.cons_append]
  gi_wp2
  gi_loopw [4] (fun _ wr => ∃ (pos : Nat) (pre : List Un) (r a z : Int), wr.heap[W.heap.size + 1]? = some (.stringIter s pos) ∧ wr.heap[W.heap.size]? = some (.cells #[.int .i32 r, .int .i64 a, .int .i64 z] 109 (0, 0)) ∧
      Aside0 (J pre wr) ∧ Aside0 (Below W.heap.size W wr) ∧ Aside0 ((a = -1 ∧ pos = 0 ∧ pre = []) ∨ (0 ≤ a ∧ a ≤ pos ∧ a < s.size ∧ pre ++ ((r, a, ((min pos s.size : Nat) : Int) - a) : Un) :: unitsGo s s.size pos = unitsOf s)))
    (fun _ wr => s.size - wr.iterPos (W.heap.size + 1))
  case atStart =>
    refine ⟨0, [], 0, -1, 0, ?_, ?_, ⟨HJ.out _ _ _ H0.out ?_⟩, ⟨?_⟩, ⟨.inl ⟨rfl, rfl, rfl⟩⟩⟩
    · have := World.iter_heap (W.alloc (Obj.cells #[Value.int IntKind.i32 0, Value.int IntKind.i64 (-1), Value.int IntKind.i64 0] 109)) s 0
      rwa [World.size_alloc] at this
    · exact (Below.heap_alloc _ _ _ (by simp)).trans (blk_new W _)
    · exact below_alloc (below_alloc (Below.refl _ _) _) _
    · exact below_alloc (below_alloc (Below.refl _ _) _) _
  case round =>
    obtain ⟨pos, pre, r, a, z, hit, hbx, HP, HB, HE⟩ := hrel
    by_cases hlt : pos < s.size
    · obtain ⟨W1, hnx, hit1, hsz1, hoth1, hbel1⟩ := next_step (P := Try.prog) wr (W.heap.size + 1) s pos hit hlt
      have hbx1 := (hoth1 W.heap.size (by omega)).trans hbx
      have g0 := (blk_cell hbx1 0).trans rfl
      have g1 := (blk_cell hbx1 1).trans rfl
      have g2 := (blk_cell hbx1 2).trans rfl
      have f0 := blk_frozen hbx1 0
      have f1 := blk_frozen hbx1 1
      have f2 := blk_frozen hbx1 2
      have HIT := Aside0.mk hit1
      have HBX := Aside0.mk hbx1
      have HB1 := Aside0.mk (HB.out.trans (hbel1.mono (by omega : W.heap.size ≤ W.heap.size + 1)))
      have HS := Aside0.mk hsz1
      have HP0 := HP
      have HI0 := Aside0.mk hit
      have HEL := Aside0.mk hbel1
      clear hit hbx hoth1 hbel1 hit1 hbx1 hsz1
      rcases HE.out with ⟨rfl, rfl, rfl⟩ | ⟨ha0, ha1, ha2, he⟩
      · gi_wp2
        refine ⟨fun _ h => (by cases h), ?_⟩
        gi_wp2
        go_roundw
        case rel =>
          refine ⟨0 + (Utf8.decode s 0).2, [], (Utf8.decode s 0).1, 0, 0, ?_, ?_, ⟨HJ.out _ _ _ HP0.out ?_⟩, ⟨?_⟩, ⟨.inr ⟨by omega, by omega, by omega, ?_⟩⟩⟩
          · repeat (refine (Below.heap_setCell _ _ _ _ (by simp)).trans ?_)
            exact HIT.out
          · refine (blk_set (blk_set (blk_set (blk_set HBX.out 2 _) 0 _) 1 _) 2 _).trans ?_
            rfl
          · repeat apply bset
            exact HEL.out.mono (by omega : W.heap.size ≤ W.heap.size + 1)
          · repeat apply bset
            exact HB1.out
          · have := unitsGo_step s 0 hlt
            unfold unitsOf
            rw [this]
            simp
        case measure =>
          have e1 : World.iterPos ((((W1.setCell ⟨W.heap.size, 2, none⟩ (.int .i64 1)).setCell ⟨W.heap.size, 0, none⟩ (.int .i32 ↑(Utf8.decode s 0).fst)).setCell ⟨W.heap.size, 1, none⟩ (.int .i64 0)).setCell ⟨W.heap.size, 2, none⟩ (.int .i64 0)) (W.heap.size + 1) = 0 + (Utf8.decode s 0).2 := by
            unfold World.iterPos
            rw [Below.heap_setCell _ _ _ _ (by simp), Below.heap_setCell _ _ _ _ (by simp), Below.heap_setCell _ _ _ _ (by simp), Below.heap_setCell _ _ _ _ (by simp), HIT.out]
          have e2 : wr.iterPos (W.heap.size + 1) = 0 := by unfold World.iterPos; rw [HI0.out]
          have := decode_one s 0 hlt
          rw [e1, e2]; omega
      · obtain ⟨fn, tmps, assign, body, hy, hR⟩ := HY.out pre (r, a, (pos : Int) - a) (W1.setCell ⟨W.heap.size, 2, none⟩ (.int .i64 ((pos : Int) - a))) (HJ.out _ _ _ HP.out ((HEL.out.mono (by omega : W.heap.size ≤ W.heap.size + 1)).setCell (p := ⟨W.heap.size, 2, none⟩) (Nat.le_refl _) _)) ⟨_, by rw [← he, Nat.min_eq_left (Nat.le_of_lt hlt)]⟩ (by simp [HS.out]; exact HB.out.size)
        have HH := Aside0.mk he
        clear he
        dsimp only [encU] at hy
        gi_wp2
        refine hR.mono ?_
        rintro e W3 (⟨rfl, hJ3, hk3⟩ | ⟨rfl, hJx3⟩)
        · have hb3 : W3.heap[W.heap.size]? = some (.cells #[.int .i32 r, .int .i64 a, .int .i64 ((pos : Int) - a)] 109 (0, 0)) := (hk3.block _ (by simp [HS.out]; have := HB.out.size; have := blk_lt HI0.out; omega)).trans (blk_set HBX.out 2 _)
          have hi3 : W3.heap[W.heap.size + 1]? = some (.stringIter s (pos + (Utf8.decode s pos).2)) := (hk3.block _ (by simp [HS.out]; have := blk_lt HI0.out; omega)).trans ((Below.heap_setCell _ _ _ _ (by simp)).trans HIT.out)
          have HJ3 := Aside0.mk hJ3
          have HB3 := Aside0.mk ((((HB1.out).setCell (p := ⟨W.heap.size, 2, none⟩) (Nat.le_refl _) (.int .i64 ((pos : Int) - a)))).trans (hk3.mono (by simp [HS.out]; exact HB.out.size)))
          have HI3 := Aside0.mk hi3
          have HX3 := Aside0.mk hb3
          have k0 := (blk_cell hb3 0).trans rfl
          have k1 := (blk_cell hb3 1).trans rfl
          have k2 := (blk_cell hb3 2).trans rfl
          have q0 := blk_frozen hb3 0
          have q1 := blk_frozen hb3 1
          have q2 := blk_frozen hb3 2
          clear hb3 hi3 hk3 hJ3 hR hy hnx
          gi_wp2
          go_roundw
          case rel =>
            refine ⟨pos + (Utf8.decode s pos).2, pre ++ [(r, a, (pos : Int) - a)], (Utf8.decode s pos).1, pos, 0, ?_, ?_, ⟨HJ.out _ _ _ HJ3.out ?_⟩, ⟨?_⟩, ⟨.inr ⟨by omega, by omega, by omega, ?_⟩⟩⟩
            · repeat (refine (Below.heap_setCell _ _ _ _ (by simp)).trans ?_)
              exact HI3.out
            · exact (blk_set (blk_set (blk_set HX3.out 0 _) 1 _) 2 _).trans rfl
            · repeat apply bset
              exact Below.refl _ _
            · repeat apply bset
              exact HB3.out
            · rw [← HH.out, unitsGo_step s pos hlt, List.append_assoc, Nat.min_eq_left (Nat.le_of_lt hlt)]
              rfl
          case measure =>
            have e1 : World.iterPos (((W3.setCell ⟨W.heap.size, 0, none⟩ (.int .i32 ↑(Utf8.decode s pos).fst)).setCell ⟨W.heap.size, 1, none⟩ (.int .i64 pos)).setCell ⟨W.heap.size, 2, none⟩ (.int .i64 0)) (W.heap.size + 1) = pos + (Utf8.decode s pos).2 := by
              unfold World.iterPos
              rw [Below.heap_setCell _ _ _ _ (by simp), Below.heap_setCell _ _ _ _ (by simp), Below.heap_setCell _ _ _ _ (by simp), HI3.out]
            have e2 : wr.iterPos (W.heap.size + 1) = pos := by unfold World.iterPos; rw [HI0.out]
            have := decode_one s pos hlt
            rw [e1, e2]; omega
        · gi_wp2
          refine bodyPost_ret (results_none rfl _ _ _) rfl ?_
          exact ⟨⟨_, rfl⟩, .inr ⟨_, _, by rw [List.append_assoc, List.singleton_append, ← HH.out, Nat.min_eq_left (Nat.le_of_lt hlt)], hJx3⟩⟩
    · have hnx := fun ty => Lib.run_next_end_at (P := Try.prog) wr (W.heap.size + 1) s pos ty hit hlt
      have g0 := (blk_cell hbx 0).trans rfl
      have g1 := (blk_cell hbx 1).trans rfl
      have g2 := (blk_cell hbx 2).trans rfl
      have f0 := blk_frozen hbx 0
      have f1 := blk_frozen hbx 1
      have f2 := blk_frozen hbx 2
      have hc1 : wr.cell? ⟨Bn, 0, none⟩ = some (.string s) := (HB.out.cell (p := ⟨Bn, 0, none⟩) hb).trans hc
      have hne : Bn ≠ W.heap.size := by omega
      have HBX := Aside0.mk hbx
      have HI0 := Aside0.mk hit
      clear hit hbx
      rcases HE.out with ⟨rfl, rfl, rfl⟩ | ⟨ha0, ha1, ha2, he⟩
      · gi_wp2
        go_end0
        refine ⟨⟨_, rfl⟩, .inl ?_⟩
        rw [show unitsOf s = [] from unitsGo_end s _ 0 hlt]
        exact HJ.out _ _ _ HP.out (bset (Below.refl _ _))
      · obtain ⟨fn, tmps, assign, body, hy, hR⟩ := HY.out pre (r, a, (s.size : Int) - a) (wr.setCell ⟨W.heap.size, 2, none⟩ (.int .i64 ((s.size : Int) - a))) (HJ.out _ _ _ HP.out (bset (Below.refl _ _))) ⟨_, by rw [← he, Nat.min_eq_right (Nat.le_of_not_lt hlt)]⟩ (by simp; exact HB.out.size)
        have HH := Aside0.mk he
        clear he
        dsimp only [encU] at hy
        gi_wp2
        refine hR.mono ?_
        rintro e W3 (⟨rfl, hJ3, hk3⟩ | ⟨rfl, hJx3⟩)
        · gi_wp2
          go_end0
          refine ⟨⟨_, rfl⟩, .inl ?_⟩
          rw [← HH.out, unitsGo_end s _ pos hlt, Nat.min_eq_right (Nat.le_of_not_lt hlt)]
          exact hJ3
        · gi_wp2
          go_end0
          exact ⟨⟨_, rfl⟩, .inr ⟨_, [], by rw [List.append_nil, ← HH.out, unitsGo_end s _ pos hlt, Nat.min_eq_right (Nat.le_of_not_lt hlt)], hJx3⟩⟩
/-- How the body of a round may be left. -/
def postU (w0 : World) (I Ix : List Un → World → Prop) (pre : List Un) (W2 : World) : Exit → Act → World → Prop
  | .normal, _, W3 => Below W2.heap.size W2 W3 ∧ I pre W3
  | .ret, _, W3 => W2.heap.size ≤ W3.heap.size ∧ (∀ j, w0.heap.size ≤ j → j < W2.heap.size → W3.heap[j]? = W2.heap[j]?) ∧ Ix pre W3
  | _, _, _ => False
theorem putObj_below {B l : Nat} (W : World) (o : Obj) (h : B ≤ l) : Below B W (W.putObj l o) := ⟨rfl, rfl, rfl, by simp, fun i hi => World.putObj_heap_other (by omega)⟩
set_option maxHeartbeats 2000000 in
/-- 'for u := range units(s)': an outermost loop at the wide fence. -/
theorem rangeU {n : Nat} {g : Operand} {p : Tmp} {assign body : Code} {Q : Exit → Act → World → Prop} {tmps : Array Value} {w0 : World} (hn : 3 ≤ n) {Bn : Nat} {s : ByteArray}
    (hg : Act.eval { tmps := tmps, defers := [] } g = .func (.func 99) #[] #[.pointer (some ⟨Bn, 0, none⟩)]) (hs : s.size ≤ 140737488351232) (hc : w0.cell? ⟨Bn, 0, none⟩ = some (.string s)) (hB : Bn < w0.heap.size)
    (I Ix : List Un → World → Prop) (hI : ∀ pre X Y, I pre X → Below w0.heap.size X Y → I pre Y) (hIx : ∀ pre X Y, Ix pre X → Below w0.heap.size X Y → Ix pre Y) (h0 : I [] w0)
    (hround : ∀ l pre x X, I pre X → (∃ t, pre ++ x :: t = unitsOf s) → w0.heap.size ≤ l → l < X.heap.size →
      assign.wpIn (Fence.wide.inRound l) (n - 1 - 1) Try.prog (Exit.then (fun a₁ w₁ => Below X.heap.size X w₁ ∧ ∀ W2, W2.heap.size = w₁.heap.size → (∀ j, j ≠ l → W2.heap[j]? = w₁.heap[j]?) → Below w0.heap.size w₁ W2 →
        body.wpIn (Fence.wide.inRound l) (n - 1 - 1) Try.prog (postU w0 I Ix (pre ++ [x]) W2) a₁ W2) (fun _ _ _ => False)) { tmps := tmps.setIfInBounds p (encU x), defers := [] } X)
    (hdone : ∀ D W, I (unitsOf s) W → W.heap[D]? = some (.deferred (some [])) → w0.heap.size ≤ D → Q .normal { tmps := tmps, defers := [{ target := .collected D, args := #[] }] } W)
    (hstop : ∀ D W pre t, pre ++ t = unitsOf s → Ix pre W → W.heap[D]? = some (.deferred (some [])) → w0.heap.size ≤ D → Code.ret.wpIn Fence.wide n Try.prog Q { tmps := tmps, defers := [{ target := .collected D, args := #[] }] } W) :
    (Code.rangeFunc g #[p] assign body).wpIn Fence.wide n Try.prog Q { tmps := tmps, defers := [] } w0 := by
  refine wpIn_rangeFunc ?_
  intro fn hfn
  rw [show (Fence.wide).round = none from rfl]
  obtain ⟨rec, hrec⟩ : ∃ rec : LoopState → Option Code → Loop, rec = fun st pe => { state := st, pending := pe, fn, tmps := tmps, params := #[p], assign, body, defers := w0.heap.size } := ⟨_, rfl⟩
  obtain ⟨W1, hW1⟩ : ∃ W1, (w0.alloc (.deferred (some []))).alloc (.loop (rec .ready none)) = W1 := ⟨_, rfl⟩
  have hL1 : W1.heap[w0.heap.size + 1]? = some (.loop (rec .ready none)) := by
    rw [← hW1]; have := World.alloc_heap_new (w0.alloc (.deferred (some []))) (.loop (rec .ready none)); rwa [World.size_alloc] at this
  have hK1 : W1.heap[w0.heap.size]? = some (.deferred (some [])) := by
    rw [← hW1]; exact (Below.heap_alloc _ _ _ (by simp)).trans (World.alloc_heap_new w0 _)
  have hb1 : Below w0.heap.size w0 W1 := by
    rw [← hW1]; exact below_alloc (below_alloc (Below.refl _ _) _) _
  have hsz : W1.heap.size = w0.heap.size + 2 := by rw [← hW1]; simp
  refine ⟨w0.heap.size + 1, [{ target := .collected w0.heap.size, args := #[] }], W1, { target := .fn (.func 99) #[.pointer (some ⟨Bn, 0, none⟩)], args := #[.func (.yield (w0.heap.size + 1)) #[] #[]] }, W1, 99,
    #[.func (.yield (w0.heap.size + 1)) #[] #[]] ++ #[.pointer (some ⟨Bn, 0, none⟩)], W1, ?_, ?_, ?_, ?_, fun _ => by omega, ?_⟩
  · rw [← hW1, hrec]; exact run_enterLoop_outer _ _ _ _ _
  · simp only [resolve, hg]
    simp [go_sem]
  · intro f' _; trivial
  · have eg := enters_of Try.func99 (by kernel_rfl) rfl
    simp [invoke, go_sem]
  · refine (units1_in Fence.wide (n - 1) trivial rfl (by omega) (w0.heap.size + 1) Bn s hs
      (fun pre W => I pre W ∧ W.heap[w0.heap.size + 1]? = some (.loop (rec .ready none)) ∧ W.heap[w0.heap.size]? = some (.deferred (some [])))
      (fun pre W => Ix pre W ∧ W.heap[w0.heap.size + 1]? = some (.loop (rec .done (some .ret))) ∧ W.heap[w0.heap.size]? = some (.deferred (some [])))
      W1 (pw_cell_below hb1 hc) (by omega)
      (fun pre X Y hp hb => ⟨hI pre X Y hp.1 (hb.mono (by omega)), (hb.block _ (by omega)).trans hp.2.1, (hb.block _ (by omega)).trans hp.2.2⟩)
      ?_ ⟨hI [] _ _ h0 hb1, hL1, hK1⟩).mono ?_
    · rintro pre x X ⟨hi, hl, hk⟩ hpre hsx
      have hlt : w0.heap.size + 1 < X.heap.size := (Array.getElem?_eq_some_iff.1 hl).1
      have hy := run_yield (P := Try.prog) (args := #[encU x]) hl (by rw [hrec]; rfl)
      rw [hrec] at hy
      have hy' : (Instr.yield (w0.heap.size + 1) #[encU x]).run Try.prog X = .ok (.round (w0.heap.size + 1) fn (tmps.setIfInBounds p (encU x)) assign body) X := by rw [hy]; simp
      refine ⟨fn, _, assign, body, hy', roundIn_of_wpIn hfn ?_⟩
      refine wpIn_mono (hround _ pre x X hi hpre (by omega) hlt) ?_
      rintro e a₁ w₁ hp
      cases e with
      | normal =>
        obtain ⟨hb, hbody⟩ := hp
        have hl1 : w₁.heap[w0.heap.size + 1]? = some (.loop (rec .ready none)) := (hb.block _ hlt).trans hl
        have hk1 : w₁.heap[w0.heap.size]? = some (.deferred (some [])) := (hb.block _ (by omega)).trans hk
        refine ⟨_, run_beginRound hl1 (by rw [hrec]), ?_⟩
        have hlt1 : w0.heap.size + 1 < w₁.heap.size := (Array.getElem?_eq_some_iff.1 hl1).1
        have hl2 : (w₁.putObj (w0.heap.size + 1) (.loop { rec .ready none with state := .busy })).heap[w0.heap.size + 1]? = some (.loop { rec .ready none with state := .busy }) := World.putObj_heap_same hlt1
        refine wpIn_mono (hbody (w₁.putObj (w0.heap.size + 1) (.loop { rec .ready none with state := .busy })) (by simp) (fun j hj => World.putObj_heap_other hj) (putObj_below _ _ (by omega))) ?_
        rintro e a3 W3 hp
        cases e with
        | normal =>
          obtain ⟨hb3, hi3⟩ := hp
          have hl3 := (hb3.block _ (by simpa using hlt1)).trans hl2
          have hr := run_endRound (P := Try.prog) none hl3
          refine ⟨_, _, hr, .inl ⟨rfl, ⟨hI _ _ _ hi3 (putObj_below _ _ (by omega)), ?_, ?_⟩, ?_⟩⟩
          · rw [World.putObj_heap_same (Array.getElem?_eq_some_iff.1 hl3).1, hrec]; rfl
          · rw [World.putObj_heap_other (by omega)]
            exact (hb3.block _ (by simp; omega)).trans ((World.putObj_heap_other (by omega)).trans hk1)
          · refine ⟨hb3.os.trans hb.os, hb3.tape.trans hb.tape, hb3.output.trans hb.output, ?_, fun j hj => ?_⟩
            · have h1 := hb3.size; have h2 := hb.size; simp at h1 ⊢; omega
            · by_cases hjl : j = w0.heap.size + 1
              · subst hjl
                rw [World.putObj_heap_same (Array.getElem?_eq_some_iff.1 hl3).1, hl, hrec]; rfl
              · rw [World.putObj_heap_other hjl, hb3.block _ (by have := hb.size; simp; omega), World.putObj_heap_other hjl, hb.block _ hj]
        | ret =>
          obtain ⟨hs3, hb3, hi3⟩ := hp
          have hl3 := (hb3 _ (by omega) (by simpa using hlt1)).trans hl2
          have hr := run_endRound (P := Try.prog) (some .ret) hl3
          refine ⟨_, _, hr, .inr ⟨rfl, hIx _ _ _ hi3 (putObj_below _ _ (by omega)), ?_, ?_⟩⟩
          · rw [World.putObj_heap_same (Array.getElem?_eq_some_iff.1 hl3).1, hrec]; rfl
          · rw [World.putObj_heap_other (by omega)]
            exact (hb3 _ (by omega) (by simp; omega)).trans ((World.putObj_heap_other (by omega)).trans hk1)
        | exit id => exact hp.elim
        | goto t => exact hp.elim
        | panic ch => exact hp.elim
        | outgrown => exact hp.elim
      | ret => exact hp.elim
      | exit id => exact hp.elim
      | goto t => exact hp.elim
      | panic ch => exact hp.elim
      | outgrown => exact hp.elim
    · rintro e W2 ⟨⟨v, rfl⟩, (⟨hi, hl, hk⟩ | ⟨pre, t, hpt, hi, hl, hk⟩)⟩
      · exact ⟨none, _, by have := run_endLoop (P := Try.prog) hl (by rw [hrec]; simp); rw [hrec] at this; exact this, hdone _ _ (hI _ _ _ hi (putObj_below _ _ (by omega))) ((World.putObj_heap_other (by omega)).trans hk) (Nat.le_refl _)⟩
      · exact ⟨some .ret, _, by have := run_endLoop (P := Try.prog) hl (by rw [hrec]; simp); rw [hrec] at this; exact this, hstop _ _ pre t hpt (hIx _ _ _ hi (putObj_below _ _ (by omega))) ((World.putObj_heap_other (by omega)).trans hk) (Nat.le_refl _)⟩
set_option maxRecDepth 100000 in
set_option maxHeartbeats 2000000 in
theorem Valid_calls (s : ByteArray) (w : World) (hs : s.size ≤ 140737488351232) : Calls Try.prog 94 #[.string s] w fun e w' => e = .returned (.bool (utfOK s)) ∧ Below w.heap.size w w' := by
  have hu := Try.underlying109
  refine (callsIn_wide (n := 6)).1 ?_
  refine callsIn_of_wp_marks Try.func94 rfl trivial ?_ rfl
  simp only [Try.ntmps94, List.size_toArray, List.length_cons, List.length_nil, Nat.reduceAdd, Nat.reduceSub, Array.replicate_succ, Array.replicate_zero, List.push_toArray, List.append_toArray, List.nil_append, List.cons_append]
  gi_wp2_with (refine ⟨trivial, ?_⟩; gi_at_call 96; refine (units_in _ _ trivial rfl _ _).mono ?_; rintro e w' ⟨rfl, rfl⟩)
  refine rangeU (by omega) (Bn := w.heap.size + 1) (s := s) rfl hs (by simp [go_sem]) (by simp)
    (fun pre X => (∀ u, u ∈ pre → okU u = true) ∧ Below w.heap.size w X ∧ X.heap[w.heap.size]? = some (.cells #[.bool false] 4 (0, 0)))
    (fun pre X => (∃ u, u ∈ pre ∧ okU u = false) ∧ Below w.heap.size w X ∧ X.heap[w.heap.size]? = some (.cells #[.bool false] 4 (0, 0)))
    (fun pre X Y h hb => ⟨h.1, h.2.1.trans (hb.mono (by simp; omega)), (hb.block _ (by simp; omega)).trans h.2.2⟩)
    (fun pre X Y h hb => ⟨h.1, h.2.1.trans (hb.mono (by simp; omega)), (hb.block _ (by simp; omega)).trans h.2.2⟩)
    ⟨fun u hu => absurd hu (by simp), below_alloc (below_alloc (Below.refl _ _) _) _, blk_alloc (blk_new w _) _⟩ ?_ ?_ ?_
  · rintro l pre x X ⟨hok, hB, hR⟩ hpre hl1 hl2
    have HB := Aside0.mk hB
    have HR := Aside0.mk hR
    have HO := Aside0.mk hok
    clear hok hB hR hpre
    unfold encU
    gi_wp2
    refine ⟨below_alloc (Below.refl _ _) _, fun W2 hsz2 hoth2 hb2 => ?_⟩
    have hl1' : w.heap.size + 2 ≤ l := by simpa using hl1
    have hsx : w.heap.size < X.heap.size := blk_lt HR.out
    have hbx : W2.heap[X.heap.size]? = some (.cells #[.int .i32 x.1, .int .i64 x.2.1, .int .i64 x.2.2] 109 (0, 0)) := (hoth2 _ (by omega)).trans (blk_new X _)
    have hr2 : W2.heap[w.heap.size]? = some (.cells #[.bool false] 4 (0, 0)) := (hoth2 _ (by omega)).trans (blk_alloc HR.out _)
    have HB2 := Aside0.mk ((below_alloc HB.out (.cells #[.int .i32 x.1, .int .i64 x.2.1, .int .i64 x.2.2] 109)).trans (hb2.mono (by simp; omega)))
    have HR2 := Aside0.mk hr2
    have g0 := (blk_cell hbx 0).trans rfl
    have g1 := (blk_cell hbx 1).trans rfl
    have g2 := (blk_cell hbx 2).trans rfl
    have r0 := (blk_cell hr2 0).trans rfl
    have rf := blk_frozen hr2 0
    clear hbx hr2 hoth2 hb2 hsz2 HR
    cases hv : okU x
    · gi_wp2_with (refine ⟨trivial, ?_⟩; gi_at_call 97; refine (CallsIn.inRound l (unitValid_in Fence.wide _ trivial rfl x _)).mono ?_; rintro e w3 ⟨rfl, hb3⟩; have r0' := pw_cell_below hb3 r0; have rf' := (hb3.frozen (p := ⟨w.heap.size, 0, none⟩) (blk_lt HR2.out)).trans rf)
      refine ⟨by simpa using hb3.size, fun j hj hj2 => ?_, ⟨x, by simp, hv⟩, ?_, ?_⟩
      · rw [Below.heap_setCell _ _ _ _ (by simp at hj ⊢; omega)]
        exact hb3.block _ hj2
      · exact below_set (below_step HB2.out hb3) (Nat.le_refl _)
      · exact (blk_set (blk_below HR2.out hb3) 0 _).trans rfl
    · gi_wp2_with (refine ⟨trivial, ?_⟩; gi_at_call 97; refine (CallsIn.inRound l (unitValid_in Fence.wide _ trivial rfl x _)).mono ?_; rintro e w3 ⟨rfl, hb3⟩)
      refine ⟨hb3, fun u hu => ?_, below_step HB2.out hb3, blk_below HR2.out hb3⟩
      rcases List.mem_append.1 hu with hu | hu
      · exact HO.out u hu
      · rw [List.mem_singleton.1 hu]; exact hv
  · rintro D W ⟨hok, hB, hR⟩ hD hDl
    have hk0 := (blk_cell hR 0).trans rfl
    have hf0 := blk_frozen hR 0
    have HB := Aside0.mk hB
    have HR := Aside0.mk hR
    have HO := Aside0.mk hok
    have HD := Aside0.mk hD
    clear hok hB hR hD
    gi_wp2
    have hD' : (W.setCell ⟨w.heap.size, 0, none⟩ (.bool true)).heap[D]? = some (.deferred (some [])) := (Below.heap_setCell _ _ _ _ (by simp at hDl ⊢; omega)).trans HD.out
    refine ⟨by simp, .inl ⟨_, _, rfl, run_takeDeferred hD', ?_⟩⟩
    have hc : ((W.setCell ⟨w.heap.size, 0, none⟩ (.bool true)).putObj D (.deferred none)).cell? ⟨w.heap.size, 0, none⟩ = some (.bool true) := by
      refine (blk_cell (cs := #[.bool true]) (t := 4) ?_ 0).trans rfl
      exact (World.putObj_heap_other (by simp at hDl; omega)).trans ((blk_set HR.out 0 _).trans rfl)
    refine ⟨.bool true, by simp [results, Try.results94, go_sem, hc], ?_, ?_⟩
    · rw [show utfOK s = true from List.all_eq_true.2 HO.out]
    · exact (below_set HB.out (Nat.le_refl _)).trans (putObj_below _ _ (by simp at hDl; omega))
  · rintro D W pre t hpt ⟨⟨u, hu, hbad⟩, hB, hR⟩ hD hDl
    have HB := Aside0.mk hB
    have HR := Aside0.mk hR
    have HD := Aside0.mk hD
    clear hB hR hD
    gi_wp2
    refine ⟨by simp, .inl ⟨_, _, rfl, run_takeDeferred HD.out, ?_⟩⟩
    have hc : (W.putObj D (.deferred none)).cell? ⟨w.heap.size, 0, none⟩ = some (.bool false) := by
      refine (blk_cell (cs := #[.bool false]) (t := 4) ?_ 0).trans rfl
      exact (World.putObj_heap_other (by simp at hDl; omega)).trans HR.out
    refine ⟨.bool false, by simp [results, Try.results94, go_sem, hc], ?_, ?_⟩
    · have : utfOK s = false := by
        unfold utfOK
        rw [← hpt, List.all_append]
        rw [show pre.all okU = false from by
          rw [List.all_eq_false]; exact ⟨u, hu, by simp [hbad]⟩]
        rfl
      rw [this]
    · exact HB.out.trans (putObj_below _ _ (by simp at hDl; omega))
end Go.Proofs.Ytkdgholmfnidkaa
