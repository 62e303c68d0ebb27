/- The law CorpusCompares returns true whatever came in: no condition. -/
import Derived.Test.YtkdgholmfnidkaaR
namespace Go.Proofs.Ytkdgholmfnidkaa
open Go.RowKit Go.Proofs.YtkdgholmfnidkaaW.PrintWords Go.Proofs.YtkdgholmfnidkaaW.PrintLast Go.Proofs.YtkdgholmfnidkaaW.PrintMore

set_option maxHeartbeats 4000000 in
set_option maxRecDepth 100000 in
theorem law4_calls (a : S39) (cs : List Value) (b : S39) (cs' : List Value) (w : World) (ha : k39.K w a cs) (_ : okR a) (_ : rng a.f1 ∧ rng a.f2) (hb : k39.K w b cs') (_ : okR b) (_ : rng b.f1 ∧ rng b.f2) :
    Calls Try.prog 4 #[.agg cs.toArray, .agg cs'.toArray] w fun e w' => e = .returned (.bool true) ∧ Below w.heap.size w w' := by
  have hu39 := Try.underlying39
  obtain ⟨A, c, rfl, -, hr⟩ := k39_open ha
  obtain ⟨A', c', rfl, -, hr'⟩ := k39_open hb
  clear ha hb
  have HR := Aside0.mk hr
  have HR' := Aside0.mk hr'
  clear hr hr'
  have B0 := (blk_alloc (blk_new w (.cells #[.string a.f0, .int .i64 a.f1, .int .i64 a.f2, .slice A a.f3.length c] 39)) (.cells #[.string b.f0, .int .i64 b.f1, .int .i64 b.f2, .slice A' b.f3.length c'] 39))
  have B1 := blk_new (w.alloc (.cells #[.string a.f0, .int .i64 a.f1, .int .i64 a.f2, .slice A a.f3.length c] 39)) (.cells #[.string b.f0, .int .i64 b.f1, .int .i64 b.f2, .slice A' b.f3.length c'] 39)
  have HB : Below w.heap.size w ((w.alloc (.cells #[.string a.f0, .int .i64 a.f1, .int .i64 a.f2, .slice A a.f3.length c] 39)).alloc (.cells #[.string b.f0, .int .i64 b.f1, .int .i64 b.f2, .slice A' b.f3.length c'] 39)) := below_alloc (below_alloc (Below.refl _ _) _) _
  rw [World.size_alloc] at B1
  by_cases h1 : 20 < a.f3.length
  · go_enter Try.func4, Try.ntmps4
    go_wp2
    go_ret
    exact ⟨rfl, HB⟩
  by_cases h2 : 20 < b.f3.length
  · go_enter Try.func4, Try.ntmps4
    go_wp2
    go_ret
    exact ⟨rfl, HB⟩
  go_enter Try.func4, Try.ntmps4
  go_wp2
  replace B0 := blk_drew B0
  replace B1 := blk_drew B1
  replace HB := below_step HB (pw_below_drewN (Below.refl _ _) 1)
  refine start_ (n := 11) (S := fun w' => w'.cell? ⟨w.heap.size, 0, none⟩ = some (.string a.f0) ∧ w'.cell? ⟨w.heap.size, 1, none⟩ = some (.int .i64 a.f1) ∧ w'.cell? ⟨w.heap.size, 2, none⟩ = some (.int .i64 a.f2) ∧ w'.cell? ⟨w.heap.size, 3, none⟩ = some (.slice A a.f3.length c) ∧ w'.cell? ⟨w.heap.size + 1, 0, none⟩ = some (.string b.f0) ∧ w'.cell? ⟨w.heap.size + 1, 1, none⟩ = some (.int .i64 b.f1) ∧ w'.cell? ⟨w.heap.size + 1, 2, none⟩ = some (.int .i64 b.f2) ∧ w'.cell? ⟨w.heap.size + 1, 3, none⟩ = some (.slice A' b.f3.length c')) (ds := []) #[false, false, false, false, false, false, false, false, false, false, false] (by kernel_rfl) rfl rfl ⟨(blk_cell B0 0).trans rfl, (blk_cell B0 1).trans rfl, (blk_cell B0 2).trans rfl, (blk_cell B0 3).trans rfl, (blk_cell B1 0).trans rfl, (blk_cell B1 1).trans rfl, (blk_cell B1 2).trans rfl, (blk_cell B1 3).trans rfl⟩ (fun hHeld => ?_)
  change Below _ _ ((w.alloc (.cells #[.string a.f0, .int .i64 a.f1, .int .i64 a.f2, .slice A a.f3.length c] 39)).alloc (.cells #[.string b.f0, .int .i64 b.f1, .int .i64 b.f2, .slice A' b.f3.length c'] 39)).drew at HB
  generalize ((w.alloc (.cells #[.string a.f0, .int .i64 a.f1, .int .i64 a.f2, .slice A a.f3.length c] 39)).alloc (.cells #[.string b.f0, .int .i64 b.f1, .int .i64 b.f2, .slice A' b.f3.length c'] 39)).drew = U0 at B0 B1 HB hHeld ⊢
  refine take_ (i := 0) (N := some 15) (v := ?_) (a' := ?_) #[true, false, false, false, false, false, false, false, false, false, false] rfl rfl (by kernel_rfl) (fun _ _ _ h => h) (Or.inl ⟨by rfl, ?_⟩) hHeld ?_ ?_
  rotate_left
  · rintro w' ⟨s0, s1, s2, s3, s4, s5, s6, s7⟩
    go_simp
    with_reducible rfl
  rotate_left
  · simp only [Act.put, List.setIfInBounds_toArray, List.set_cons_zero, List.set_cons_succ, i64_w, i32_w]
    rfl
  refine take_ (i := 1) (N := some 16) (v := ?_) (a' := ?_) #[true, true, false, false, false, false, false, false, false, false, false] rfl rfl (by kernel_rfl) (fun _ _ _ h => h) (Or.inl ⟨by rfl, ?_⟩) hHeld ?_ ?_
  rotate_left
  · rintro w' ⟨s0, s1, s2, s3, s4, s5, s6, s7⟩
    go_simp
    with_reducible rfl
  rotate_left
  · simp only [Act.put, List.setIfInBounds_toArray, List.set_cons_zero, List.set_cons_succ, i64_w, i32_w]
    rfl
  refine take_ (i := 3) (N := some 18) (v := ?_) (a' := ?_) #[true, true, false, true, false, false, false, false, false, false, false] rfl rfl (by kernel_rfl) (fun _ _ _ h => h) (Or.inl ⟨by rfl, ?_⟩) hHeld ?_ ?_
  rotate_left
  · rintro w' ⟨s0, s1, s2, s3, s4, s5, s6, s7⟩
    go_simp
    with_reducible rfl
  rotate_left
  · simp only [Act.put, List.setIfInBounds_toArray, List.set_cons_zero, List.set_cons_succ, i64_w, i32_w]
    rfl
  refine take_ (i := 4) (N := some 19) (v := ?_) (a' := ?_) #[true, true, false, true, true, false, false, false, false, false, false] rfl rfl (by kernel_rfl) (fun _ _ _ h => h) (Or.inl ⟨by rfl, ?_⟩) hHeld ?_ ?_
  rotate_left
  · rintro w' ⟨s0, s1, s2, s3, s4, s5, s6, s7⟩
    go_simp
    with_reducible rfl
  rotate_left
  · simp only [Act.put, List.setIfInBounds_toArray, List.set_cons_zero, List.set_cons_succ, i64_w, i32_w]
    rfl
  refine one_ (i := 2) (N := some 17) #[true, true, true, true, true, false, false, false, false, false, false] rfl rfl (by kernel_rfl) (by decide) (fun K hK => ?_)
  refine goes_ Try.func18 (by kernel_rfl) rfl #[.agg #[.string a.f0, .int .i64 a.f1, .int .i64 a.f2, .slice A a.f3.length c], .agg #[.string b.f0, .int .i64 b.f1, .int .i64 b.f2, .slice A' b.f3.length c']] (by rfl) rfl rfl (by simp only [List.map_toArray, List.map_cons, List.map_nil]; rfl) ?_
  with_reducible refine (CompareRegions_calls a b A A' c c' U0 (Kd.C_below HR.out HB) (Kd.C_below HR'.out HB)).mono ?_
  rintro e U1 ⟨rfl, hb⟩
  replace B0 := blk_below B0 hb
  replace B1 := blk_below B1 hb
  replace HB := below_step HB hb
  clear hb
  refine ⟨_, rfl, ?_⟩
  refine hK.out _ _ ⟨(blk_cell B0 0).trans rfl, (blk_cell B0 1).trans rfl, (blk_cell B0 2).trans rfl, (blk_cell B0 3).trans rfl, (blk_cell B1 0).trans rfl, (blk_cell B1 1).trans rfl, (blk_cell B1 2).trans rfl, (blk_cell B1 3).trans rfl⟩ (fun hHeld => ?_)
  clear hK K
  refine norm_ (a' := ?_) ?_ ?_
  rotate_left
  · show Act.put _ (some 17) _ = _
    simp only [Act.put, List.setIfInBounds_toArray, List.set_cons_zero, List.set_cons_succ, i64_w, i32_w]
    rfl
  refine one_ (i := 5) (N := some 20) #[true, true, true, true, true, true, false, false, false, false, false] rfl rfl (by kernel_rfl) (by decide) (fun K hK => ?_)
  refine goes_ Try.func19 (by kernel_rfl) rfl #[.agg #[.string a.f0, .int .i64 a.f1, .int .i64 a.f2, .slice A a.f3.length c], .agg #[.string b.f0, .int .i64 b.f1, .int .i64 b.f2, .slice A' b.f3.length c']] (by rfl) rfl rfl (by simp only [List.map_toArray, List.map_cons, List.map_nil]; rfl) ?_
  with_reducible refine (rCompareRegions_calls a b A A' c c' U1 (Kd.C_below HR.out HB) (Kd.C_below HR'.out HB)).mono ?_
  rintro e U2 ⟨rfl, hb⟩
  replace B0 := blk_below B0 hb
  replace B1 := blk_below B1 hb
  replace HB := below_step HB hb
  clear hb
  refine ⟨_, rfl, ?_⟩
  refine hK.out _ _ ⟨(blk_cell B0 0).trans rfl, (blk_cell B0 1).trans rfl, (blk_cell B0 2).trans rfl, (blk_cell B0 3).trans rfl, (blk_cell B1 0).trans rfl, (blk_cell B1 1).trans rfl, (blk_cell B1 2).trans rfl, (blk_cell B1 3).trans rfl⟩ (fun hHeld => ?_)
  clear hK K
  refine norm_ (a' := ?_) ?_ ?_
  rotate_left
  · show Act.put _ (some 20) _ = _
    simp only [Act.put, List.setIfInBounds_toArray, List.set_cons_zero, List.set_cons_succ, i64_w, i32_w]
    rfl
  refine pure_ (i := 6) (N := some 21) (v := ?_) (a' := ?_) #[true, true, true, true, true, true, true, false, false, false, false] rfl rfl (by kernel_rfl) (fun _ _ _ h => h) (Or.inl ⟨by rfl, ?_⟩) ?_ ?_
  rotate_left
  · intro w'
    go_simp
    with_reducible rfl
  rotate_left
  · simp only [Act.put, List.setIfInBounds_toArray, List.set_cons_zero, List.set_cons_succ, i64_w, i32_w]
    rfl
  refine pure_ (i := 7) (N := some 22) (v := ?_) (a' := ?_) #[true, true, true, true, true, true, true, true, false, false, false] rfl rfl (by kernel_rfl) (fun _ _ _ h => h) (Or.inl ⟨by rfl, ?_⟩) ?_ ?_
  rotate_left
  · intro w'
    go_simp
    with_reducible rfl
  rotate_left
  · simp only [Act.put, List.setIfInBounds_toArray, List.set_cons_zero, List.set_cons_succ, i64_w, i32_w]
    rfl
  refine one_ (i := 8) (N := some 23) #[true, true, true, true, true, true, true, true, true, false, false] rfl rfl (by kernel_rfl) (by decide) (fun K hK => ?_)
  refine goes_ Try.func17 (by kernel_rfl) rfl #[] (by rfl) rfl rfl (by simp) ?_
  with_reducible refine (awake_calls U2).mono ?_
  rintro e U3 ⟨rfl, hb⟩
  replace B0 := blk_below B0 hb
  replace B1 := blk_below B1 hb
  replace HB := below_step HB hb
  clear hb
  refine ⟨_, rfl, ?_⟩
  refine hK.out _ _ ⟨(blk_cell B0 0).trans rfl, (blk_cell B0 1).trans rfl, (blk_cell B0 2).trans rfl, (blk_cell B0 3).trans rfl, (blk_cell B1 0).trans rfl, (blk_cell B1 1).trans rfl, (blk_cell B1 2).trans rfl, (blk_cell B1 3).trans rfl⟩ (fun hHeld => ?_)
  clear hK K
  refine norm_ (a' := ?_) ?_ ?_
  rotate_left
  · show Act.put _ (some 23) _ = _
    simp only [Act.put, List.setIfInBounds_toArray, List.set_cons_zero, List.set_cons_succ, i64_w, i32_w]
    rfl
  refine pure_ (i := 9) (N := some 24) (v := ?_) (a' := ?_) #[true, true, true, true, true, true, true, true, true, true, false] rfl rfl (by kernel_rfl) (fun _ _ _ h => h) (Or.inl ⟨by rfl, ?_⟩) ?_ ?_
  rotate_left
  · intro w'
    go_simp
    with_reducible rfl
  rotate_left
  · simp only [Act.put, List.setIfInBounds_toArray, List.set_cons_zero, List.set_cons_succ, i64_w, i32_w]
    rfl
  refine pure_ (i := 10) (N := some 4) (v := ?_) (a' := ?_) #[true, true, true, true, true, true, true, true, true, true, true] rfl rfl (by kernel_rfl) (fun _ _ _ h => h) (Or.inl ⟨by rfl, ?_⟩) ?_ ?_
  rotate_left
  · intro w'
    go_simp
    with_reducible rfl
  rotate_left
  · simp only [Act.put, List.setIfInBounds_toArray, List.set_cons_zero, List.set_cons_succ, i64_w, i32_w]
    rfl
  refine done_ (by kernel_rfl) ?_
  go_wp2_with fail
  go_ret
  exact ⟨rfl, HB⟩
end Go.Proofs.Ytkdgholmfnidkaa
