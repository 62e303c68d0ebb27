/- Copies of the parts of a corpus. -/
import Derived.Test.YtkdgholmfnidkaaJ
namespace Go.Proofs.Ytkdgholmfnidkaa
open Go.RowKit Go.Proofs.YtkdgholmfnidkaaW.PrintWords Go.Proofs.YtkdgholmfnidkaaW.PrintLast Go.Proofs.YtkdgholmfnidkaaW.PrintMore

theorem R_setB {α : Type} {d : Kd α} {e : Nat} {w1 : World} {base : Nat} {v : Value} {xs : List α} (h : d.R e w1 base (fun _ => True) v xs) {g j : Nat} (hg : g < base) (u : Value) : d.R e (w1.setCell ⟨g, j, none⟩ u) base (fun _ => True) v xs :=
  Kd.R_mono (Kd.R_far (p := ⟨g, j, none⟩) (Kd.R_bound h) (fun k hk => by have := hk.2.1; simp; omega) u) (fun _ _ => trivial)
theorem info70 : (Try.prog.info? 70).map (fun i => (i.zero, i.size, i.bytes)) = some (some (.agg #[(.string ⟨#[]⟩), (.string ⟨#[]⟩)]), 2, 32) := by kernel_rfl
set_option maxHeartbeats 2000000 in
set_option maxRecDepth 100000 in
theorem copyPairs_calls (A : Option Addr) (c : Nat) (l : List S70) (w : World) (hr : Kd.C k70 w A l.length l) (hle : l.length ≤ 4000000000000) :
    Calls Try.prog 84 #[.slice A l.length c] w fun e w' => ∃ v, e = .returned v ∧ k70.R 70 w' w.heap.size (fun _ => True) v l ∧ Below w.heap.size w w' := by
  have hu70 := Try.underlying70
  go_enter Try.func84, Try.ntmps84
  go_wp2_with (at_builtin; refine Kd.R_append_rows k70 (Rr := k70.K w) (w0 := w) w.heap.size rfl (.const (.slice none 0 0)) (.tmp 3) 37 70 _ 32 rfl Try.underlying37 info70 rfl (by decide) (by decide) (.slice none 0 0) [] l A l.length c (fun _ => True) (fun _ => True) rfl rfl (Kd.R_nil _ _ _ _ _) hr (fun x cs hx => by obtain rfl := k70_open hx; exact k70_mkM _ _ _ _) (fun k _ => ⟨trivial, by simp [Value.ownBlock]⟩) (fun _ _ => trivial) (Below.refl _ _) (Nat.le_refl _) (by simp; omega) ?_; intro v1 w1 hown hb1 _ _)
  go_ret
  exact ⟨_, rfl, hown, hb1⟩
set_option maxHeartbeats 4000000 in
set_option maxRecDepth 100000 in
theorem copyText_calls (A : Option Addr) (c : Nat) (x : S64) (d : Int) (w : World) (hr : Kd.C k70 w A x.f3.length x.f3) (hle : x.f3.length ≤ 4000000000000) (h1 : IntKind.i64.wrap (x.f1 + d) = x.f1 + d) (h2 : IntKind.i64.wrap (x.f2 + d) = x.f2 + d) :
    Calls Try.prog 53 #[.agg #[.string x.f0, .int .i64 x.f1, .int .i64 x.f2, .slice A x.f3.length c], .int .i64 d] w fun e w' => ∃ v, e = .returned (.agg #[.string x.f0, .int .i64 (x.f1 + d), .int .i64 (x.f2 + d), v]) ∧ k70.R 70 w' w.heap.size (fun _ => True) v x.f3 ∧ Below w.heap.size w w' := by
  have hu64 := Try.underlying64
  have HR := Aside0.mk hr
  clear hr
  have HX := Bx.refl w #[.string x.f0, .int .i64 x.f1, .int .i64 x.f2, .slice A x.f3.length c] 64
  have HB0 : Below w.heap.size w (w.alloc (.cells #[.string x.f0, .int .i64 x.f1, .int .i64 x.f2, .slice A x.f3.length c] 64)) := below_alloc (Below.refl _ _) _
  go_enter Try.func53, Try.ntmps53
  go_upto_region 1 with fail
  have hZ := blk_new (w.alloc (.cells #[.string x.f0, .int .i64 x.f1, .int .i64 x.f2, .slice A x.f3.length c] 64)) (.cells #[.string ⟨#[]⟩, .int .i64 0, .int .i64 0, .slice none 0 0] 64)
  rw [World.size_alloc] at hZ
  replace HX := HX.alloc (.cells #[.string ⟨#[]⟩, .int .i64 0, .int .i64 0, .slice none 0 0] 64)
  generalize (w.alloc (.cells #[.string x.f0, .int .i64 x.f1, .int .i64 x.f2, .slice A x.f3.length c] 64)).alloc (.cells #[.string ⟨#[]⟩, .int .i64 0, .int .i64 0, .slice none 0 0] 64) = W at HX hZ ⊢
  clear HB0
  have x0 := (HX.at_ 0).trans rfl
  have x1 := (HX.at_ 1).trans rfl
  have x2 := (HX.at_ 2).trans rfl
  have x3 := (HX.at_ 3).trans rfl
  have HS := bel_refl W
  have HSD := bel_drew HS
  go_region_held3 (fun w' => w'.cell? ⟨w.heap.size, 0, none⟩ = some (.string x.f0) ∧ w'.cell? ⟨w.heap.size, 1, none⟩ = some (.int .i64 x.f1) ∧ w'.cell? ⟨w.heap.size, 2, none⟩ = some (.int .i64 x.f2) ∧ w'.cell? ⟨w.heap.size, 3, none⟩ = some (.slice A x.f3.length c))
    (refine ⟨?_, ?_, ?_, ?_⟩ <;> first | (go_keep; done) | (refine pw_cell_below (w := W) (Aside0.out ?_) (by assumption); (repeat' (first | exact HS | with_reducible apply bel_drew | with_reducible apply bel_alloc | refine bel_step ?_ hb5)); done))
    (first | (go_at_call 84; refine (copyPairs_calls A c x.f3 _ (Kd.C_below HR.out (below_step HX.below HSD.out)) hle).mono ?_; rintro e w5 ⟨v, rfl, hv, hb5⟩; obtain ⟨Av, cv, rfl⟩ := Kd.R_slice hv; have z5 := blk_cell (blk_below (blk_drew hZ) hb5); have zf := blk_frozen (blk_below (blk_drew hZ) hb5)))
  all_goals
    have hs5 := hb5.size
    have hsW : w.heap.size + 1 < W.heap.size := blk_lt hZ
    have hb9 : Below w.heap.size w ((((w5.setCell ⟨w.heap.size + 1, 0, none⟩ (.string x.f0)).setCell ⟨w.heap.size + 1, 1, none⟩ (.int .i64 (x.f1 + d))).setCell ⟨w.heap.size + 1, 2, none⟩ (.int .i64 (x.f2 + d))).setCell ⟨w.heap.size + 1, 3, none⟩ (.slice Av x.f3.length cv)) :=
      below_set (below_set (below_set (below_set (below_step (pw_below_drewN HX.below 1) hb5) (by omega)) (by omega)) (by omega)) (by omega)
    have hv9 := R_setB (R_setB (R_setB (R_setB hv (g := w.heap.size + 1) (j := 0) (by simp; omega) (.string x.f0)) (g := w.heap.size + 1) (j := 1) (by simp; omega) (.int .i64 (x.f1 + d))) (g := w.heap.size + 1) (j := 2) (by simp; omega) (.int .i64 (x.f2 + d))) (g := w.heap.size + 1) (j := 3) (by simp; omega) (.slice Av x.f3.length cv)
    have hz9 := blk_put (blk_set (blk_set (blk_set (blk_below (blk_drew hZ) hb5) 0 (.string x.f0)) 1 (.int .i64 (x.f1 + d))) 2 (.int .i64 (x.f2 + d))) 3 (.slice Av x.f3.length cv) (cs' := #[.string x.f0, .int .i64 (x.f1 + d), .int .i64 (x.f2 + d), .slice Av x.f3.length cv]) rfl
    generalize (((w5.setCell ⟨w.heap.size + 1, 0, none⟩ (.string x.f0)).setCell ⟨w.heap.size + 1, 1, none⟩ (.int .i64 (x.f1 + d))).setCell ⟨w.heap.size + 1, 2, none⟩ (.int .i64 (x.f2 + d))).setCell ⟨w.heap.size + 1, 3, none⟩ (.slice Av x.f3.length cv) = W9 at hb9 hv9 hz9 ⊢
    go_wp2_with fail
    (try simp only [Exit.inBlock, Exit.then])
    refine bodyPost_ret (results_cell_row rfl _ _ (w.heap.size + 1) 64 #[.string x.f0, .int .i64 (x.f1 + d), .int .i64 (x.f2 + d), .slice Av x.f3.length cv] (0, 0) _ rfl hz9 Try.underlying64 rfl (by kernel_rfl)) rfl ?_
    exact ⟨_, rfl, Kd.R_lower hv9 (by simp; omega), hb9⟩
set_option maxHeartbeats 4000000 in
set_option maxRecDepth 100000 in
theorem copyRegion_calls (A : Option Addr) (c : Nat) (x : S39) (d : Int) (w : World) (hr : Kd.C k70 w A x.f3.length x.f3) (hle : x.f3.length ≤ 4000000000000) (h1 : IntKind.i64.wrap (x.f1 + d) = x.f1 + d) (h2 : IntKind.i64.wrap (x.f2 + d) = x.f2 + d) :
    Calls Try.prog 54 #[.agg #[.string x.f0, .int .i64 x.f1, .int .i64 x.f2, .slice A x.f3.length c], .int .i64 d] w fun e w' => ∃ v, e = .returned (.agg #[.string x.f0, .int .i64 (x.f1 + d), .int .i64 (x.f2 + d), v]) ∧ k70.R 70 w' w.heap.size (fun _ => True) v x.f3 ∧ Below w.heap.size w w' := by
  have hu39 := Try.underlying39
  have HR := Aside0.mk hr
  clear hr
  have HX := Bx.refl w #[.string x.f0, .int .i64 x.f1, .int .i64 x.f2, .slice A x.f3.length c] 39
  have HB0 : Below w.heap.size w (w.alloc (.cells #[.string x.f0, .int .i64 x.f1, .int .i64 x.f2, .slice A x.f3.length c] 39)) := below_alloc (Below.refl _ _) _
  go_enter Try.func54, Try.ntmps54
  go_upto_region 1 with fail
  have hZ := blk_new (w.alloc (.cells #[.string x.f0, .int .i64 x.f1, .int .i64 x.f2, .slice A x.f3.length c] 39)) (.cells #[.string ⟨#[]⟩, .int .i64 0, .int .i64 0, .slice none 0 0] 39)
  rw [World.size_alloc] at hZ
  replace HX := HX.alloc (.cells #[.string ⟨#[]⟩, .int .i64 0, .int .i64 0, .slice none 0 0] 39)
  generalize (w.alloc (.cells #[.string x.f0, .int .i64 x.f1, .int .i64 x.f2, .slice A x.f3.length c] 39)).alloc (.cells #[.string ⟨#[]⟩, .int .i64 0, .int .i64 0, .slice none 0 0] 39) = W at HX hZ ⊢
  clear HB0
  have x0 := (HX.at_ 0).trans rfl
  have x1 := (HX.at_ 1).trans rfl
  have x2 := (HX.at_ 2).trans rfl
  have x3 := (HX.at_ 3).trans rfl
  have HS := bel_refl W
  have HSD := bel_drew HS
  go_region_held3 (fun w' => w'.cell? ⟨w.heap.size, 0, none⟩ = some (.string x.f0) ∧ w'.cell? ⟨w.heap.size, 1, none⟩ = some (.int .i64 x.f1) ∧ w'.cell? ⟨w.heap.size, 2, none⟩ = some (.int .i64 x.f2) ∧ w'.cell? ⟨w.heap.size, 3, none⟩ = some (.slice A x.f3.length c))
    (refine ⟨?_, ?_, ?_, ?_⟩ <;> first | (go_keep; done) | (refine pw_cell_below (w := W) (Aside0.out ?_) (by assumption); (repeat' (first | exact HS | with_reducible apply bel_drew | with_reducible apply bel_alloc | refine bel_step ?_ hb5)); done))
    (first | (go_at_call 84; refine (copyPairs_calls A c x.f3 _ (Kd.C_below HR.out (below_step HX.below HSD.out)) hle).mono ?_; rintro e w5 ⟨v, rfl, hv, hb5⟩; obtain ⟨Av, cv, rfl⟩ := Kd.R_slice hv; have z5 := blk_cell (blk_below (blk_drew hZ) hb5); have zf := blk_frozen (blk_below (blk_drew hZ) hb5)))
  all_goals
    have hs5 := hb5.size
    have hsW : w.heap.size + 1 < W.heap.size := blk_lt hZ
    have hb9 : Below w.heap.size w ((((w5.setCell ⟨w.heap.size + 1, 0, none⟩ (.string x.f0)).setCell ⟨w.heap.size + 1, 1, none⟩ (.int .i64 (x.f1 + d))).setCell ⟨w.heap.size + 1, 2, none⟩ (.int .i64 (x.f2 + d))).setCell ⟨w.heap.size + 1, 3, none⟩ (.slice Av x.f3.length cv)) :=
      below_set (below_set (below_set (below_set (below_step (pw_below_drewN HX.below 1) hb5) (by omega)) (by omega)) (by omega)) (by omega)
    have hv9 := R_setB (R_setB (R_setB (R_setB hv (g := w.heap.size + 1) (j := 0) (by simp; omega) (.string x.f0)) (g := w.heap.size + 1) (j := 1) (by simp; omega) (.int .i64 (x.f1 + d))) (g := w.heap.size + 1) (j := 2) (by simp; omega) (.int .i64 (x.f2 + d))) (g := w.heap.size + 1) (j := 3) (by simp; omega) (.slice Av x.f3.length cv)
    have hz9 := blk_put (blk_set (blk_set (blk_set (blk_below (blk_drew hZ) hb5) 0 (.string x.f0)) 1 (.int .i64 (x.f1 + d))) 2 (.int .i64 (x.f2 + d))) 3 (.slice Av x.f3.length cv) (cs' := #[.string x.f0, .int .i64 (x.f1 + d), .int .i64 (x.f2 + d), .slice Av x.f3.length cv]) rfl
    generalize (((w5.setCell ⟨w.heap.size + 1, 0, none⟩ (.string x.f0)).setCell ⟨w.heap.size + 1, 1, none⟩ (.int .i64 (x.f1 + d))).setCell ⟨w.heap.size + 1, 2, none⟩ (.int .i64 (x.f2 + d))).setCell ⟨w.heap.size + 1, 3, none⟩ (.slice Av x.f3.length cv) = W9 at hb9 hv9 hz9 ⊢
    go_wp2_with fail
    (try simp only [Exit.inBlock, Exit.then])
    refine bodyPost_ret (results_cell_row rfl _ _ (w.heap.size + 1) 39 #[.string x.f0, .int .i64 (x.f1 + d), .int .i64 (x.f2 + d), .slice Av x.f3.length cv] (0, 0) _ rfl hz9 Try.underlying39 rfl (by kernel_rfl)) rfl ?_
    exact ⟨_, rfl, Kd.R_lower hv9 (by simp; omega), hb9⟩
set_option maxHeartbeats 4000000 in
set_option maxRecDepth 100000 in
theorem copyNode_calls (x : S74) (d e : Int) (w : World) (h1 : IntKind.i64.wrap (x.f1 + d) = x.f1 + d) (h2 : IntKind.i64.wrap (x.f2 + d) = x.f2 + d) (h3 : 0 ≤ x.f3 → IntKind.i64.wrap (x.f3 + e) = x.f3 + e) :
    Calls Try.prog 55 #[.agg #[.string x.f0, .int .i64 x.f1, .int .i64 x.f2, .int .i64 x.f3], .int .i64 d, .int .i64 e] w fun r w' => r = .returned (.agg #[.string x.f0, .int .i64 (x.f1 + d), .int .i64 (x.f2 + d), .int .i64 (if 0 ≤ x.f3 then x.f3 + e else x.f3)]) ∧ Below w.heap.size w w' := by
  have hu74 := Try.underlying74
  by_cases h0 : 0 ≤ x.f3
  · have h4 := h3 h0
    rw [if_pos h0]
    clear h3
    go_enter Try.func55, Try.ntmps55
    go_wp2
    have hz := blk_new (w.alloc (.cells #[.string x.f0, .int .i64 (x.f1 + d), .int .i64 (x.f2 + d), .int .i64 (x.f3 + e)] 74)) (.cells #[.string x.f0, .int .i64 (x.f1 + d), .int .i64 (x.f2 + d), .int .i64 (x.f3 + e)] 74)
    rw [World.size_alloc] at hz
    refine bodyPost_ret (results_cell_row rfl _ _ (w.heap.size + 1) 74 #[.string x.f0, .int .i64 (x.f1 + d), .int .i64 (x.f2 + d), .int .i64 (x.f3 + e)] (0, 0) _ rfl hz Try.underlying74 rfl (by kernel_rfl)) rfl ?_
    exact ⟨rfl, below_alloc (below_alloc (Below.refl _ _) _) _⟩
  · rw [if_neg h0]
    clear h3
    go_enter Try.func55, Try.ntmps55
    go_wp2
    have hz := blk_new (w.alloc (.cells #[.string x.f0, .int .i64 (x.f1 + d), .int .i64 (x.f2 + d), .int .i64 (x.f3)] 74)) (.cells #[.string x.f0, .int .i64 (x.f1 + d), .int .i64 (x.f2 + d), .int .i64 (x.f3)] 74)
    rw [World.size_alloc] at hz
    refine bodyPost_ret (results_cell_row rfl _ _ (w.heap.size + 1) 74 #[.string x.f0, .int .i64 (x.f1 + d), .int .i64 (x.f2 + d), .int .i64 (x.f3)] (0, 0) _ rfl hz Try.underlying74 rfl (by kernel_rfl)) rfl ?_
    exact ⟨rfl, below_alloc (below_alloc (Below.refl _ _) _) _⟩
end Go.Proofs.Ytkdgholmfnidkaa
