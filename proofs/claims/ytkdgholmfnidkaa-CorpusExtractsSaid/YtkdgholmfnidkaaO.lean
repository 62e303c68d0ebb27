/- The sanity check that every statement calls: it returns true. -/
import Derived.Test.YtkdgholmfnidkaaM
namespace Go.Proofs.Ytkdgholmfnidkaa
open Go.RowKit Go.Proofs.YtkdgholmfnidkaaW.PrintWords Go.Proofs.YtkdgholmfnidkaaW.PrintLast Go.Proofs.YtkdgholmfnidkaaW.PrintMore

/-- The corpus of the check, by its one region's interval. -/
def xR (b e : Int) : S30 := ⟨[⟨⟨#[119, 111, 114, 100]⟩, false⟩], [[⟨#[97]⟩], [⟨#[98]⟩], [⟨#[99]⟩]], [⟨⟨#[120]⟩, 0, 2, []⟩, ⟨⟨#[121]⟩, 2, 3, []⟩], [⟨⟨#[115]⟩, b, e, []⟩], [], [], []⟩
theorem vErr_13 : vErr (xR 1 3) = (4, 0, 8) := by kernel_rfl
theorem vErr_02 : vErr (xR 0 2) = (0, 0, 0) := by kernel_rfl
theorem ext_02 : extErr (xR 0 2) 1 = 0 := by kernel_rfl
theorem ext_02a : (extOf (xR 0 2) 1).f1.length = 1 := by kernel_rfl
theorem ext_02b : (extOf (xR 0 2) 1).f3.length = 0 := by kernel_rfl
theorem okC_R (b e : Int) : okC (xR b e) := by
  refine ⟨?_, ?_, ?_, ?_, ?_, ?_⟩ <;> simp [xR, okT, okR] <;> decide
theorem addr0 (g n : Nat) : (⟨g, 0, none⟩ : Addr).add n = ⟨g, n, none⟩ := by
  unfold Addr.add
  split
  · rename_i h; rw [h]
  · simp
theorem C_blk {α : Type} (d : Kd α) {W : World} {g e : Nat} {cs : List Value} {xs : List α} (h : W.heap[g]? = some (.cells cs.toArray e (0, 0))) (hr : Reps (d.K W) d.sz xs cs) (hm : xs.length ≤ 1000) : d.C W (some ⟨g, 0, none⟩) xs.length xs := by
  refine ⟨rfl, by omega, fun _ => ⟨_, rfl, fun j p hj => ⟨(cs.drop (j * d.sz)).take d.sz, ?_, hr.2 j p hj, fun i u hu => ?_⟩⟩⟩
  · have := (List.getElem?_eq_some_iff.1 hj).1
    have h2 : j * d.sz + d.sz ≤ xs.length * d.sz := by rw [← Nat.succ_mul]; exact Nat.mul_le_mul_right _ this
    rw [List.length_take, List.length_drop, hr.1]
    omega
  · have hi : i < d.sz := by
      have := (List.getElem?_eq_some_iff.1 hu).1
      rw [List.length_take] at this
      omega
    have hu' : cs[j * d.sz + i]? = some u := by
      rw [List.getElem?_take_of_lt hi, List.getElem?_drop] at hu
      exact hu
    have := blk_cell h (j * d.sz + i)
    simp only [List.getElem?_toArray, hu'] at this
    rw [addr0]; exact this
theorem K_xR {W : World} {b e : Int} {g0 ga gb gc g1 g2 g3 : Nat}
    (h0 : W.heap[g0]? = some (.cells #[.string ⟨#[119, 111, 114, 100]⟩, .bool false] 62 (0, 0)))
    (ha : W.heap[ga]? = some (.cells #[.string ⟨#[97]⟩] 9 (0, 0))) (hb : W.heap[gb]? = some (.cells #[.string ⟨#[98]⟩] 9 (0, 0))) (hc : W.heap[gc]? = some (.cells #[.string ⟨#[99]⟩] 9 (0, 0)))
    (h1 : W.heap[g1]? = some (.cells #[.slice (some ⟨ga, 0, none⟩) 1 1, .slice (some ⟨gb, 0, none⟩) 1 1, .slice (some ⟨gc, 0, none⟩) 1 1] 28 (0, 0)))
    (h2 : W.heap[g2]? = some (.cells #[.string ⟨#[120]⟩, .int .i64 0, .int .i64 2, .slice none 0 0, .string ⟨#[121]⟩, .int .i64 2, .int .i64 3, .slice none 0 0] 64 (0, 0)))
    (h3 : W.heap[g3]? = some (.cells #[.string ⟨#[115]⟩, .int .i64 b, .int .i64 e, .slice none 0 0] 39 (0, 0))) :
    k30.K W (xR b e) [.slice (some ⟨g0, 0, none⟩) 1 1, .slice (some ⟨g1, 0, none⟩) 3 3, .slice (some ⟨g2, 0, none⟩) 2 2, .slice (some ⟨g3, 0, none⟩) 1 1, .slice none 0 0, .slice none 0 0, .slice none 0 0] := by
  have hs : ∀ {g : Nat} {s : ByteArray}, W.heap[g]? = some (.cells #[.string s] 9 (0, 0)) → (Kd.slice 9 Kd.string).K W [s] [.slice (some ⟨g, 0, none⟩) 1 1] := fun {g s} h =>
    ⟨_, _, rfl, Nat.le_refl _, C_blk Kd.string (cs := [.string s]) h (Reps.front (p := s) (c := [.string s]) rfl rfl (Reps.none _ _) rfl) (by simp)⟩
  have hn : ∀ {α : Type} (d : Kd α), d.C W none ([] : List α).length [] := fun d => (R_CK (A := none) (c := 0) (Kd.R_nil d 0 W 0 (fun _ => True))).2
  exact k30_mk W (xR b e) (c0 := 1) (Nat.le_refl _) (C_blk k62 (cs := [_, _]) h0 (Reps.front (c := [_, _]) (k62_mk W _) rfl (Reps.none _ _) rfl) (by simp [xR]))
    (c1 := 3) (Nat.le_refl _) (C_blk (Kd.slice 9 Kd.string) (cs := [_, _, _]) h1 (Reps.front (c := [_]) (hs ha) rfl (Reps.front (c := [_]) (hs hb) rfl (Reps.front (c := [_]) (hs hc) rfl (Reps.none _ _) rfl) rfl) rfl) (by simp [xR]))
    (c2 := 2) (Nat.le_refl _) (C_blk k64 (cs := [_, _, _, _, _, _, _, _]) h2 (Reps.front (c := [_, _, _, _]) (k64_mk W ⟨⟨#[120]⟩, 0, 2, []⟩ (Nat.zero_le _) (hn k70)) rfl (Reps.front (c := [_, _, _, _]) (k64_mk W ⟨⟨#[121]⟩, 2, 3, []⟩ (Nat.zero_le _) (hn k70)) rfl (Reps.none _ _) rfl) rfl) (by simp [xR]))
    (c3 := 1) (Nat.le_refl _) (C_blk k39 (cs := [_, _, _, _]) h3 (Reps.front (c := [_, _, _, _]) (k39_mk W ⟨⟨#[115]⟩, b, e, []⟩ (Nat.zero_le _) (hn k70)) rfl (Reps.none _ _) rfl) (by simp [xR]))
    (c4 := 0) (Nat.le_refl _) (hn k74) (c5 := 0) (Nat.le_refl _) (hn _) (c6 := 0) (Nat.le_refl _) (hn _)
/-- A struct of four cells stored whole. -/
def put4 (W : World) (g : Nat) (v0 v1 v2 v3 : Value) : World := (((W.setCell ⟨g, 0, none⟩ v0).setCell ⟨g, 1, none⟩ v1).setCell ⟨g, 2, none⟩ v2).setCell ⟨g, 3, none⟩ v3
theorem put4_blk {W : World} {g t : Nat} {a0 a1 a2 a3 : Value} (h : W.heap[g]? = some (.cells #[a0, a1, a2, a3] t (0, 0))) (v0 v1 v2 v3 : Value) : (put4 W g v0 v1 v2 v3).heap[g]? = some (.cells #[v0, v1, v2, v3] t (0, 0)) :=
  blk_put (blk_put (blk_put (blk_put h 0 v0 (cs' := #[v0, a1, a2, a3]) rfl) 1 v1 (cs' := #[v0, v1, a2, a3]) rfl) 2 v2 (cs' := #[v0, v1, v2, a3]) rfl) 3 v3 (cs' := #[v0, v1, v2, v3]) rfl
theorem put4_far {W : World} {g g' t : Nat} {cs : Array Value} (h : W.heap[g']? = some (.cells cs t (0, 0))) (hne : g' ≠ g) (v0 v1 v2 v3 : Value) : (put4 W g v0 v1 v2 v3).heap[g']? = some (.cells cs t (0, 0)) :=
  blk_far (p := ⟨g, 3, none⟩) (blk_far (p := ⟨g, 2, none⟩) (blk_far (p := ⟨g, 1, none⟩) (blk_far (p := ⟨g, 0, none⟩) h (by simp; omega) v0) (by simp; omega) v1) (by simp; omega) v2) (by simp; omega) v3
theorem put4_below {w W : World} {g : Nat} (h : Below w.heap.size w W) (hg : w.heap.size ≤ g) (v0 v1 v2 v3 : Value) : Below w.heap.size w (put4 W g v0 v1 v2 v3) := below_set (below_set (below_set (below_set h hg) hg) hg) hg
set_option maxHeartbeats 16000000 in
set_option maxRecDepth 100000 in
theorem awake_calls (w : World) : Calls Try.prog 17 #[] w fun e w' => e = .returned (.bool true) ∧ Below w.heap.size w w' := by
  have hu30 := Try.underlying30
  have hu64 := Try.underlying64
  have hu39 := Try.underlying39
  have hu62 := Try.underlying62
  have hu22 := Try.underlying22
  have hu28 := Try.underlying28
  have hu23 := Try.underlying23
  have hu24 := Try.underlying24
  have hu25 := Try.underlying25
  go_enter Try.func17, Try.ntmps17
  go_upto_region 2 with fail
  have b0 := blk_alloc (blk_alloc (blk_alloc (blk_alloc (blk_alloc (blk_alloc (blk_alloc (blk_new w (.cells #[.string ⟨#[119, 111, 114, 100]⟩, .bool false] 62)) (.cells #[.string ⟨#[97]⟩] 9)) (.cells #[.string ⟨#[98]⟩] 9)) (.cells #[.string ⟨#[99]⟩] 9)) (.cells #[.slice (some ⟨w.heap.size + 1, 0, none⟩) 1 1, .slice (some ⟨w.heap.size + 1 + 1, 0, none⟩) 1 1, .slice (some ⟨w.heap.size + 1 + 1 + 1, 0, none⟩) 1 1] 28)) (.cells #[.string ⟨#[120]⟩, .int .i64 0, .int .i64 2, .slice none 0 0, .string ⟨#[121]⟩, .int .i64 2, .int .i64 3, .slice none 0 0] 64)) (.cells #[.string ⟨#[115]⟩, .int .i64 1, .int .i64 3, .slice none 0 0] 39)) (.cells #[.slice (some ⟨w.heap.size, 0, none⟩) 1 1, .slice (some ⟨w.heap.size + 1 + 1 + 1 + 1, 0, none⟩) 3 3, .slice (some ⟨w.heap.size + 1 + 1 + 1 + 1 + 1, 0, none⟩) 2 2, .slice (some ⟨w.heap.size + 1 + 1 + 1 + 1 + 1 + 1, 0, none⟩) 1 1, .slice none 0 0, .slice none 0 0, .slice none 0 0] 30)
  have b1 := blk_alloc (blk_alloc (blk_alloc (blk_alloc (blk_alloc (blk_alloc (blk_new (w.alloc (.cells #[.string ⟨#[119, 111, 114, 100]⟩, .bool false] 62)) (.cells #[.string ⟨#[97]⟩] 9)) (.cells #[.string ⟨#[98]⟩] 9)) (.cells #[.string ⟨#[99]⟩] 9)) (.cells #[.slice (some ⟨w.heap.size + 1, 0, none⟩) 1 1, .slice (some ⟨w.heap.size + 1 + 1, 0, none⟩) 1 1, .slice (some ⟨w.heap.size + 1 + 1 + 1, 0, none⟩) 1 1] 28)) (.cells #[.string ⟨#[120]⟩, .int .i64 0, .int .i64 2, .slice none 0 0, .string ⟨#[121]⟩, .int .i64 2, .int .i64 3, .slice none 0 0] 64)) (.cells #[.string ⟨#[115]⟩, .int .i64 1, .int .i64 3, .slice none 0 0] 39)) (.cells #[.slice (some ⟨w.heap.size, 0, none⟩) 1 1, .slice (some ⟨w.heap.size + 1 + 1 + 1 + 1, 0, none⟩) 3 3, .slice (some ⟨w.heap.size + 1 + 1 + 1 + 1 + 1, 0, none⟩) 2 2, .slice (some ⟨w.heap.size + 1 + 1 + 1 + 1 + 1 + 1, 0, none⟩) 1 1, .slice none 0 0, .slice none 0 0, .slice none 0 0] 30)
  have b2 := blk_alloc (blk_alloc (blk_alloc (blk_alloc (blk_alloc (blk_new ((w.alloc (.cells #[.string ⟨#[119, 111, 114, 100]⟩, .bool false] 62)).alloc (.cells #[.string ⟨#[97]⟩] 9)) (.cells #[.string ⟨#[98]⟩] 9)) (.cells #[.string ⟨#[99]⟩] 9)) (.cells #[.slice (some ⟨w.heap.size + 1, 0, none⟩) 1 1, .slice (some ⟨w.heap.size + 1 + 1, 0, none⟩) 1 1, .slice (some ⟨w.heap.size + 1 + 1 + 1, 0, none⟩) 1 1] 28)) (.cells #[.string ⟨#[120]⟩, .int .i64 0, .int .i64 2, .slice none 0 0, .string ⟨#[121]⟩, .int .i64 2, .int .i64 3, .slice none 0 0] 64)) (.cells #[.string ⟨#[115]⟩, .int .i64 1, .int .i64 3, .slice none 0 0] 39)) (.cells #[.slice (some ⟨w.heap.size, 0, none⟩) 1 1, .slice (some ⟨w.heap.size + 1 + 1 + 1 + 1, 0, none⟩) 3 3, .slice (some ⟨w.heap.size + 1 + 1 + 1 + 1 + 1, 0, none⟩) 2 2, .slice (some ⟨w.heap.size + 1 + 1 + 1 + 1 + 1 + 1, 0, none⟩) 1 1, .slice none 0 0, .slice none 0 0, .slice none 0 0] 30)
  have b3 := blk_alloc (blk_alloc (blk_alloc (blk_alloc (blk_new (((w.alloc (.cells #[.string ⟨#[119, 111, 114, 100]⟩, .bool false] 62)).alloc (.cells #[.string ⟨#[97]⟩] 9)).alloc (.cells #[.string ⟨#[98]⟩] 9)) (.cells #[.string ⟨#[99]⟩] 9)) (.cells #[.slice (some ⟨w.heap.size + 1, 0, none⟩) 1 1, .slice (some ⟨w.heap.size + 1 + 1, 0, none⟩) 1 1, .slice (some ⟨w.heap.size + 1 + 1 + 1, 0, none⟩) 1 1] 28)) (.cells #[.string ⟨#[120]⟩, .int .i64 0, .int .i64 2, .slice none 0 0, .string ⟨#[121]⟩, .int .i64 2, .int .i64 3, .slice none 0 0] 64)) (.cells #[.string ⟨#[115]⟩, .int .i64 1, .int .i64 3, .slice none 0 0] 39)) (.cells #[.slice (some ⟨w.heap.size, 0, none⟩) 1 1, .slice (some ⟨w.heap.size + 1 + 1 + 1 + 1, 0, none⟩) 3 3, .slice (some ⟨w.heap.size + 1 + 1 + 1 + 1 + 1, 0, none⟩) 2 2, .slice (some ⟨w.heap.size + 1 + 1 + 1 + 1 + 1 + 1, 0, none⟩) 1 1, .slice none 0 0, .slice none 0 0, .slice none 0 0] 30)
  have b4 := blk_alloc (blk_alloc (blk_alloc (blk_new ((((w.alloc (.cells #[.string ⟨#[119, 111, 114, 100]⟩, .bool false] 62)).alloc (.cells #[.string ⟨#[97]⟩] 9)).alloc (.cells #[.string ⟨#[98]⟩] 9)).alloc (.cells #[.string ⟨#[99]⟩] 9)) (.cells #[.slice (some ⟨w.heap.size + 1, 0, none⟩) 1 1, .slice (some ⟨w.heap.size + 1 + 1, 0, none⟩) 1 1, .slice (some ⟨w.heap.size + 1 + 1 + 1, 0, none⟩) 1 1] 28)) (.cells #[.string ⟨#[120]⟩, .int .i64 0, .int .i64 2, .slice none 0 0, .string ⟨#[121]⟩, .int .i64 2, .int .i64 3, .slice none 0 0] 64)) (.cells #[.string ⟨#[115]⟩, .int .i64 1, .int .i64 3, .slice none 0 0] 39)) (.cells #[.slice (some ⟨w.heap.size, 0, none⟩) 1 1, .slice (some ⟨w.heap.size + 1 + 1 + 1 + 1, 0, none⟩) 3 3, .slice (some ⟨w.heap.size + 1 + 1 + 1 + 1 + 1, 0, none⟩) 2 2, .slice (some ⟨w.heap.size + 1 + 1 + 1 + 1 + 1 + 1, 0, none⟩) 1 1, .slice none 0 0, .slice none 0 0, .slice none 0 0] 30)
  have b5 := blk_alloc (blk_alloc (blk_new (((((w.alloc (.cells #[.string ⟨#[119, 111, 114, 100]⟩, .bool false] 62)).alloc (.cells #[.string ⟨#[97]⟩] 9)).alloc (.cells #[.string ⟨#[98]⟩] 9)).alloc (.cells #[.string ⟨#[99]⟩] 9)).alloc (.cells #[.slice (some ⟨w.heap.size + 1, 0, none⟩) 1 1, .slice (some ⟨w.heap.size + 1 + 1, 0, none⟩) 1 1, .slice (some ⟨w.heap.size + 1 + 1 + 1, 0, none⟩) 1 1] 28)) (.cells #[.string ⟨#[120]⟩, .int .i64 0, .int .i64 2, .slice none 0 0, .string ⟨#[121]⟩, .int .i64 2, .int .i64 3, .slice none 0 0] 64)) (.cells #[.string ⟨#[115]⟩, .int .i64 1, .int .i64 3, .slice none 0 0] 39)) (.cells #[.slice (some ⟨w.heap.size, 0, none⟩) 1 1, .slice (some ⟨w.heap.size + 1 + 1 + 1 + 1, 0, none⟩) 3 3, .slice (some ⟨w.heap.size + 1 + 1 + 1 + 1 + 1, 0, none⟩) 2 2, .slice (some ⟨w.heap.size + 1 + 1 + 1 + 1 + 1 + 1, 0, none⟩) 1 1, .slice none 0 0, .slice none 0 0, .slice none 0 0] 30)
  have b6 := blk_alloc (blk_new ((((((w.alloc (.cells #[.string ⟨#[119, 111, 114, 100]⟩, .bool false] 62)).alloc (.cells #[.string ⟨#[97]⟩] 9)).alloc (.cells #[.string ⟨#[98]⟩] 9)).alloc (.cells #[.string ⟨#[99]⟩] 9)).alloc (.cells #[.slice (some ⟨w.heap.size + 1, 0, none⟩) 1 1, .slice (some ⟨w.heap.size + 1 + 1, 0, none⟩) 1 1, .slice (some ⟨w.heap.size + 1 + 1 + 1, 0, none⟩) 1 1] 28)).alloc (.cells #[.string ⟨#[120]⟩, .int .i64 0, .int .i64 2, .slice none 0 0, .string ⟨#[121]⟩, .int .i64 2, .int .i64 3, .slice none 0 0] 64)) (.cells #[.string ⟨#[115]⟩, .int .i64 1, .int .i64 3, .slice none 0 0] 39)) (.cells #[.slice (some ⟨w.heap.size, 0, none⟩) 1 1, .slice (some ⟨w.heap.size + 1 + 1 + 1 + 1, 0, none⟩) 3 3, .slice (some ⟨w.heap.size + 1 + 1 + 1 + 1 + 1, 0, none⟩) 2 2, .slice (some ⟨w.heap.size + 1 + 1 + 1 + 1 + 1 + 1, 0, none⟩) 1 1, .slice none 0 0, .slice none 0 0, .slice none 0 0] 30)
  have b7 := blk_new (((((((w.alloc (.cells #[.string ⟨#[119, 111, 114, 100]⟩, .bool false] 62)).alloc (.cells #[.string ⟨#[97]⟩] 9)).alloc (.cells #[.string ⟨#[98]⟩] 9)).alloc (.cells #[.string ⟨#[99]⟩] 9)).alloc (.cells #[.slice (some ⟨w.heap.size + 1, 0, none⟩) 1 1, .slice (some ⟨w.heap.size + 1 + 1, 0, none⟩) 1 1, .slice (some ⟨w.heap.size + 1 + 1 + 1, 0, none⟩) 1 1] 28)).alloc (.cells #[.string ⟨#[120]⟩, .int .i64 0, .int .i64 2, .slice none 0 0, .string ⟨#[121]⟩, .int .i64 2, .int .i64 3, .slice none 0 0] 64)).alloc (.cells #[.string ⟨#[115]⟩, .int .i64 1, .int .i64 3, .slice none 0 0] 39)) (.cells #[.slice (some ⟨w.heap.size, 0, none⟩) 1 1, .slice (some ⟨w.heap.size + 1 + 1 + 1 + 1, 0, none⟩) 3 3, .slice (some ⟨w.heap.size + 1 + 1 + 1 + 1 + 1, 0, none⟩) 2 2, .slice (some ⟨w.heap.size + 1 + 1 + 1 + 1 + 1 + 1, 0, none⟩) 1 1, .slice none 0 0, .slice none 0 0, .slice none 0 0] 30)
  have hbW : Below w.heap.size w ((((((((w.alloc (.cells #[.string ⟨#[119, 111, 114, 100]⟩, .bool false] 62)).alloc (.cells #[.string ⟨#[97]⟩] 9)).alloc (.cells #[.string ⟨#[98]⟩] 9)).alloc (.cells #[.string ⟨#[99]⟩] 9)).alloc (.cells #[.slice (some ⟨w.heap.size + 1, 0, none⟩) 1 1, .slice (some ⟨w.heap.size + 1 + 1, 0, none⟩) 1 1, .slice (some ⟨w.heap.size + 1 + 1 + 1, 0, none⟩) 1 1] 28)).alloc (.cells #[.string ⟨#[120]⟩, .int .i64 0, .int .i64 2, .slice none 0 0, .string ⟨#[121]⟩, .int .i64 2, .int .i64 3, .slice none 0 0] 64)).alloc (.cells #[.string ⟨#[115]⟩, .int .i64 1, .int .i64 3, .slice none 0 0] 39)).alloc (.cells #[.slice (some ⟨w.heap.size, 0, none⟩) 1 1, .slice (some ⟨w.heap.size + 1 + 1 + 1 + 1, 0, none⟩) 3 3, .slice (some ⟨w.heap.size + 1 + 1 + 1 + 1 + 1, 0, none⟩) 2 2, .slice (some ⟨w.heap.size + 1 + 1 + 1 + 1 + 1 + 1, 0, none⟩) 1 1, .slice none 0 0, .slice none 0 0, .slice none 0 0] 30)) := below_alloc (below_alloc (below_alloc (below_alloc (below_alloc (below_alloc (below_alloc (below_alloc (Below.refl _ _) _) _) _) _) _) _) _) _
  simp only [World.size_alloc] at b0 b1 b2 b3 b4 b5 b6 b7
  generalize ((((((((w.alloc (.cells #[.string ⟨#[119, 111, 114, 100]⟩, .bool false] 62)).alloc (.cells #[.string ⟨#[97]⟩] 9)).alloc (.cells #[.string ⟨#[98]⟩] 9)).alloc (.cells #[.string ⟨#[99]⟩] 9)).alloc (.cells #[.slice (some ⟨w.heap.size + 1, 0, none⟩) 1 1, .slice (some ⟨w.heap.size + 1 + 1, 0, none⟩) 1 1, .slice (some ⟨w.heap.size + 1 + 1 + 1, 0, none⟩) 1 1] 28)).alloc (.cells #[.string ⟨#[120]⟩, .int .i64 0, .int .i64 2, .slice none 0 0, .string ⟨#[121]⟩, .int .i64 2, .int .i64 3, .slice none 0 0] 64)).alloc (.cells #[.string ⟨#[115]⟩, .int .i64 1, .int .i64 3, .slice none 0 0] 39)).alloc (.cells #[.slice (some ⟨w.heap.size, 0, none⟩) 1 1, .slice (some ⟨w.heap.size + 1 + 1 + 1 + 1, 0, none⟩) 3 3, .slice (some ⟨w.heap.size + 1 + 1 + 1 + 1 + 1, 0, none⟩) 2 2, .slice (some ⟨w.heap.size + 1 + 1 + 1 + 1 + 1 + 1, 0, none⟩) 1 1, .slice none 0 0, .slice none 0 0, .slice none 0 0] 30)) = W at b0 b1 b2 b3 b4 b5 b6 b7 hbW ⊢
  generalize hg7 : w.heap.size + 1 + 1 + 1 + 1 + 1 + 1 + 1 = g7 at b0 b1 b2 b3 b4 b5 b6 b7 ⊢
  generalize hg6 : w.heap.size + 1 + 1 + 1 + 1 + 1 + 1 = g6 at b0 b1 b2 b3 b4 b5 b6 b7 ⊢
  generalize hg5 : w.heap.size + 1 + 1 + 1 + 1 + 1 = g5 at b0 b1 b2 b3 b4 b5 b6 b7 ⊢
  generalize hg4 : w.heap.size + 1 + 1 + 1 + 1 = g4 at b0 b1 b2 b3 b4 b5 b6 b7 ⊢
  generalize hg3 : w.heap.size + 1 + 1 + 1 = g3 at b0 b1 b2 b3 b4 b5 b6 b7 ⊢
  generalize hg2 : w.heap.size + 1 + 1 = g2 at b0 b1 b2 b3 b4 b5 b6 b7 ⊢
  generalize hg1 : w.heap.size + 1 = g1 at b0 b1 b2 b3 b4 b5 b6 b7 ⊢
  have z0 := (blk_cell b7 0).trans rfl
  have z1 := (blk_cell b7 1).trans rfl
  have z2 := (blk_cell b7 2).trans rfl
  have z3 := (blk_cell b7 3).trans rfl
  have z4 := (blk_cell b7 4).trans rfl
  have z5 := (blk_cell b7 5).trans rfl
  have z6 := (blk_cell b7 6).trans rfl
  have hv1 : Calls Try.prog 15 #[.agg #[.slice (some ⟨w.heap.size, 0, none⟩) 1 1, .slice (some ⟨g4, 0, none⟩) 3 3, .slice (some ⟨g5, 0, none⟩) 2 2, .slice (some ⟨g6, 0, none⟩) 1 1, .slice none 0 0, .slice none 0 0, .slice none 0 0]] W fun e w' => e = .returned (.tuple #[.int .i64 4, .int .i64 0, .int .i64 8]) ∧ Below W.heap.size W w' := (Validate_calls (xR 1 3) [.slice (some ⟨w.heap.size, 0, none⟩) 1 1, .slice (some ⟨g4, 0, none⟩) 3 3, .slice (some ⟨g5, 0, none⟩) 2 2, .slice (some ⟨g6, 0, none⟩) 1 1, .slice none 0 0, .slice none 0 0, .slice none 0 0] W (K_xR b0 b1 b2 b3 b4 b5 b6) (okC_R _ _)).mono fun e w' h => ⟨h.1.trans (by rw [vErr_13]), h.2⟩
  go_upto_region 3 with (go_at_call 15; refine hv1.mono ?_; rintro e w1 ⟨rfl, hb1⟩)
  replace b0 := blk_below b0 hb1
  replace b1 := blk_below b1 hb1
  replace b2 := blk_below b2 hb1
  replace b3 := blk_below b3 hb1
  replace b4 := blk_below b4 hb1
  replace b5 := blk_below b5 hb1
  replace b6 := blk_below b6 hb1
  replace b7 := blk_below b7 hb1
  replace hbW := below_step hbW hb1
  clear z0 z1 z2 z3 z4 z5 z6 hv1 hb1
  have z3 := (blk_cell b7 3).trans rfl
  have y0 := (blk_cell b6 0).trans rfl
  have y1 := (blk_cell b6 1).trans rfl
  have y2 := (blk_cell b6 2).trans rfl
  have y3 := (blk_cell b6 3).trans rfl
  have yf0 := blk_frozen b6 0
  have yf1 := blk_frozen b6 1
  have yf2 := blk_frozen b6 2
  have yf3 := blk_frozen b6 3
  go_upto_region 4 with fail
  clear z3 y0 y1 y2 y3 yf0 yf1 yf2 yf3
  replace b0 := put4_far b0 (g := g6) (by omega) (.string ⟨#[115]⟩) (.int .i64 0) (.int .i64 2) (.slice none 0 0)
  replace b1 := put4_far b1 (g := g6) (by omega) (.string ⟨#[115]⟩) (.int .i64 0) (.int .i64 2) (.slice none 0 0)
  replace b2 := put4_far b2 (g := g6) (by omega) (.string ⟨#[115]⟩) (.int .i64 0) (.int .i64 2) (.slice none 0 0)
  replace b3 := put4_far b3 (g := g6) (by omega) (.string ⟨#[115]⟩) (.int .i64 0) (.int .i64 2) (.slice none 0 0)
  replace b4 := put4_far b4 (g := g6) (by omega) (.string ⟨#[115]⟩) (.int .i64 0) (.int .i64 2) (.slice none 0 0)
  replace b5 := put4_far b5 (g := g6) (by omega) (.string ⟨#[115]⟩) (.int .i64 0) (.int .i64 2) (.slice none 0 0)
  replace b7 := put4_far b7 (g := g6) (by omega) (.string ⟨#[115]⟩) (.int .i64 0) (.int .i64 2) (.slice none 0 0)
  replace hbW := put4_below (g := g6) hbW (by omega) (.string ⟨#[115]⟩) (.int .i64 0) (.int .i64 2) (.slice none 0 0)
  replace b6 := put4_blk b6 (.string ⟨#[115]⟩) (.int .i64 0) (.int .i64 2) (.slice none 0 0)
  change Code.wp _ _ _ _ (put4 w1 g6 (.string ⟨#[115]⟩) (.int .i64 0) (.int .i64 2) (.slice none 0 0))
  generalize put4 w1 g6 (.string ⟨#[115]⟩) (.int .i64 0) (.int .i64 2) (.slice none 0 0) = W2 at b0 b1 b2 b3 b4 b5 b6 b7 hbW ⊢
  have z0 := (blk_cell b7 0).trans rfl
  have z1 := (blk_cell b7 1).trans rfl
  have z2 := (blk_cell b7 2).trans rfl
  have z3 := (blk_cell b7 3).trans rfl
  have z4 := (blk_cell b7 4).trans rfl
  have z5 := (blk_cell b7 5).trans rfl
  have z6 := (blk_cell b7 6).trans rfl
  have hv2 : Calls Try.prog 15 #[.agg #[.slice (some ⟨w.heap.size, 0, none⟩) 1 1, .slice (some ⟨g4, 0, none⟩) 3 3, .slice (some ⟨g5, 0, none⟩) 2 2, .slice (some ⟨g6, 0, none⟩) 1 1, .slice none 0 0, .slice none 0 0, .slice none 0 0]] W2 fun e w' => e = .returned (.tuple #[.int .i64 0, .int .i64 0, .int .i64 0]) ∧ Below W2.heap.size W2 w' := (Validate_calls (xR 0 2) [.slice (some ⟨w.heap.size, 0, none⟩) 1 1, .slice (some ⟨g4, 0, none⟩) 3 3, .slice (some ⟨g5, 0, none⟩) 2 2, .slice (some ⟨g6, 0, none⟩) 1 1, .slice none 0 0, .slice none 0 0, .slice none 0 0] W2 (K_xR b0 b1 b2 b3 b4 b5 b6) (okC_R _ _)).mono fun e w' h => ⟨h.1.trans (by rw [vErr_02]), h.2⟩
  go_upto_region 5 with (go_at_call 15; refine hv2.mono ?_; rintro e w3 ⟨rfl, hb1⟩)
  replace b0 := blk_below b0 hb1
  replace b1 := blk_below b1 hb1
  replace b2 := blk_below b2 hb1
  replace b3 := blk_below b3 hb1
  replace b4 := blk_below b4 hb1
  replace b5 := blk_below b5 hb1
  replace b6 := blk_below b6 hb1
  replace b7 := blk_below b7 hb1
  replace hbW := below_step hbW hb1
  clear z0 z1 z2 z3 z4 z5 z6 hv2 hb1
  have z0 := (blk_cell b7 0).trans rfl
  have z1 := (blk_cell b7 1).trans rfl
  have z2 := (blk_cell b7 2).trans rfl
  have z3 := (blk_cell b7 3).trans rfl
  have z4 := (blk_cell b7 4).trans rfl
  have z5 := (blk_cell b7 5).trans rfl
  have z6 := (blk_cell b7 6).trans rfl
  have hx : Calls Try.prog 21 #[.agg #[.slice (some ⟨w.heap.size, 0, none⟩) 1 1, .slice (some ⟨g4, 0, none⟩) 3 3, .slice (some ⟨g5, 0, none⟩) 2 2, .slice (some ⟨g6, 0, none⟩) 1 1, .slice none 0 0, .slice none 0 0, .slice none 0 0], .int .i64 1] w3 fun e w' => ∃ (A0 : Option Addr) (n0 c0 : Nat) (A1 : Option Addr) (c1 : Nat) (A2 : Option Addr) (n2 c2 : Nat) (A3 : Option Addr) (c3 : Nat) (A4 : Option Addr) (n4 c4 : Nat) (A5 : Option Addr) (n5 c5 : Nat) (A6 : Option Addr) (n6 c6 : Nat), e = .returned (.tuple #[.agg #[.slice A0 n0 c0, .slice A1 1 c1, .slice A2 n2 c2, .slice A3 0 c3, .slice A4 n4 c4, .slice A5 n5 c5, .slice A6 n6 c6], .int .i64 0]) ∧ Below w3.heap.size w3 w' := (Extract_calls (xR 0 2) [.slice (some ⟨w.heap.size, 0, none⟩) 1 1, .slice (some ⟨g4, 0, none⟩) 3 3, .slice (some ⟨g5, 0, none⟩) 2 2, .slice (some ⟨g6, 0, none⟩) 1 1, .slice none 0 0, .slice none 0 0, .slice none 0 0] 1 w3 (K_xR b0 b1 b2 b3 b4 b5 b6) (okC_R _ _)).mono fun e w' h => by
    obtain ⟨cs', h1, h2, h3⟩ := h
    obtain ⟨A0, c0, A1, c1, A2, c2, A3, c3, A4, c4, A5, c5, A6, c6, rfl, -⟩ := k30_open h2
    rw [ext_02a, ext_02b, ext_02] at h1
    exact ⟨_, _, _, _, _, _, _, _, _, _, _, _, _, _, _, _, _, _, _, h1, h3⟩
  go_upto_region 6 with (go_at_call 21; refine hx.mono ?_; rintro e w4 ⟨A0, n0, d0, A1, d1, A2, n2, d2, A3, d3, A4, n4, d4, A5, n5, d5, A6, n6, d6, rfl, hb1⟩)
  go_wp2
  go_ret
  exact ⟨rfl, below_alloc (below_step hbW hb1) _⟩
end Go.Proofs.Ytkdgholmfnidkaa
