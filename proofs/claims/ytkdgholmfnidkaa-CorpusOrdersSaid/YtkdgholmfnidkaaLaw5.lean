/- The law CorpusOrders returns true whatever came in: no condition. -/
import Derived.Test.YtkdgholmfnidkaaS
import Derived.Test.YtkdgholmfnidkaaV
namespace Go.Proofs.Ytkdgholmfnidkaa
open Go.RowKit Go.Proofs.YtkdgholmfnidkaaW.PrintWords Go.Proofs.YtkdgholmfnidkaaW.PrintLast Go.Proofs.YtkdgholmfnidkaaW.PrintMore
theorem K_one {W : World} {g : Nat} {a : S39} {cs : List Value} (h : W.heap[g]? = some (.cells cs.toArray 39 (0, 0))) (hk : k39.K W a cs) : k30.K W ⟨[], [], [], [a], [], [], []⟩ [.slice none 0 0, .slice none 0 0, .slice none 0 0, .slice (some ⟨g, 0, none⟩) 1 1, .slice none 0 0, .slice none 0 0, .slice none 0 0] := by
  have hn : ∀ {α : Type} (d : Kd α), d.C W none ([] : List α).length [] := fun d => (R_CK (A := none) (c := 0) (Kd.R_nil d 0 W 0 (fun _ => True))).2
  exact k30_mk W ⟨[], [], [], [a], [], [], []⟩ (c0 := 0) (Nat.le_refl _) (hn k62) (c1 := 0) (Nat.le_refl _) (hn _) (c2 := 0) (Nat.le_refl _) (hn k64) (c3 := 1) (Nat.le_refl _) (C_blk k39 h (Reps.front hk (k39.K_len hk) (Reps.none _ _) (by simp)) (by simp))
    (c4 := 0) (Nat.le_refl _) (hn k74) (c5 := 0) (Nat.le_refl _) (hn _) (c6 := 0) (Nat.le_refl _) (hn _)
theorem eq30_one (a b : S39) : eq30 ⟨[], [], [], [a], [], [], []⟩ ⟨[], [], [], [b], [], [], []⟩ = e39 a b := by simp [eq30, eqBy]
set_option maxHeartbeats 16000000 in
set_option maxRecDepth 100000 in
theorem law5_calls (a : S39) (csa : List Value) (b : S39) (csb : List Value) (d : S39) (csd : List Value) (w : World) (ha : k39.K w a csa) (_ : okR a) (_ : rng a.f1 ∧ rng a.f2) (hb : k39.K w b csb) (_ : okR b) (_ : rng b.f1 ∧ rng b.f2) (hd : k39.K w d csd) (_ : okR d) (_ : rng d.f1 ∧ rng d.f2) :
    Calls Try.prog 5 #[.agg csa.toArray, .agg csb.toArray, .agg csd.toArray] w fun e w' => e = .returned (.bool true) ∧ Below w.heap.size w w' := by
  have hu39 := Try.underlying39
  have hu30 := Try.underlying30
  have HKa := Aside0.mk ha
  have HKb := Aside0.mk hb
  obtain ⟨Aa, ca, rfl, -, ra⟩ := k39_open ha
  obtain ⟨Ab, cb, rfl, -, rb⟩ := k39_open hb
  obtain ⟨Ad, cd, rfl, -, rd⟩ := k39_open hd
  clear ha hb hd
  have Ra := Aside0.mk ra
  have Rb := Aside0.mk rb
  have Rd := Aside0.mk rd
  clear ra rb rd
  obtain ⟨p, hp⟩ : ∃ p, Aside0 (p = cmpR a b) := ⟨_, ⟨rfl⟩⟩
  obtain ⟨q, hq⟩ : ∃ q, Aside0 (q = cmpR b d) := ⟨_, ⟨rfl⟩⟩
  obtain ⟨r, hr⟩ : ∃ r, Aside0 (r = cmpR a d) := ⟨_, ⟨rfl⟩⟩
  have hpr : -1 ≤ p ∧ p ≤ 1 := hp.out ▸ cmpR_rng a b
  have hqr : -1 ≤ q ∧ q ≤ 1 := hq.out ▸ cmpR_rng b d
  have hrr : -1 ≤ r ∧ r ≤ 1 := hr.out ▸ cmpR_rng a d
  have t1 : p ≤ 0 → q ≤ 0 → r ≤ 0 := by rw [hp.out, hq.out, hr.out]; exact ordR.trans a b d
  have t2 : 0 ≤ p → 0 ≤ q → 0 ≤ r := by
    intro h1 h2
    have := ordR.trans d b a (by rw [ordR.anti b d, ← hq.out]; omega) (by rw [ordR.anti a b, ← hp.out]; omega)
    rw [ordR.anti a d, ← hr.out] at this
    omega
  have hz : (p == 0) = e39 a b := by rw [hp.out]; exact cmpR_zero a b
  have HZ := Aside0.mk hz
  have T := Aside0.mk (And.intro hpr (And.intro hqr (And.intro hrr (And.intro t1 t2))))
  clear hz hpr hqr hrr t1 t2
  have B0 := blk_alloc (blk_alloc (blk_new w (.cells #[.string a.f0, .int .i64 a.f1, .int .i64 a.f2, .slice Aa a.f3.length ca] 39)) (.cells #[.string b.f0, .int .i64 b.f1, .int .i64 b.f2, .slice Ab b.f3.length cb] 39)) (.cells #[.string d.f0, .int .i64 d.f1, .int .i64 d.f2, .slice Ad d.f3.length cd] 39)
  have B1 := blk_alloc (blk_new (w.alloc (.cells #[.string a.f0, .int .i64 a.f1, .int .i64 a.f2, .slice Aa a.f3.length ca] 39)) (.cells #[.string b.f0, .int .i64 b.f1, .int .i64 b.f2, .slice Ab b.f3.length cb] 39)) (.cells #[.string d.f0, .int .i64 d.f1, .int .i64 d.f2, .slice Ad d.f3.length cd] 39)
  have B2 := blk_new ((w.alloc (.cells #[.string a.f0, .int .i64 a.f1, .int .i64 a.f2, .slice Aa a.f3.length ca] 39)).alloc (.cells #[.string b.f0, .int .i64 b.f1, .int .i64 b.f2, .slice Ab b.f3.length cb] 39)) (.cells #[.string d.f0, .int .i64 d.f1, .int .i64 d.f2, .slice Ad d.f3.length cd] 39)
  have HB : Below w.heap.size w (((w.alloc (.cells #[.string a.f0, .int .i64 a.f1, .int .i64 a.f2, .slice Aa a.f3.length ca] 39)).alloc (.cells #[.string b.f0, .int .i64 b.f1, .int .i64 b.f2, .slice Ab b.f3.length cb] 39)).alloc (.cells #[.string d.f0, .int .i64 d.f1, .int .i64 d.f2, .slice Ad d.f3.length cd] 39)) := below_alloc (below_alloc (below_alloc (Below.refl _ _) _) _) _
  simp only [World.size_alloc] at B1 B2
  by_cases h1 : 20 < a.f3.length
  · go_enter Try.func5, Try.ntmps5
    go_wp2
    go_ret
    exact ⟨rfl, HB⟩
  by_cases h2 : 20 < b.f3.length
  · go_enter Try.func5, Try.ntmps5
    go_wp2
    go_ret
    exact ⟨rfl, HB⟩
  by_cases h3 : 20 < d.f3.length
  · go_enter Try.func5, Try.ntmps5
    go_wp2
    go_ret
    exact ⟨rfl, HB⟩
  go_enter Try.func5, Try.ntmps5
  go_wp2
  replace B0 := blk_drew B0
  replace B1 := blk_drew B1
  replace B2 := blk_drew B2
  replace HB := below_step HB (pw_below_drewN (Below.refl _ _) 1)
  change Below _ _ (((w.alloc (.cells #[.string a.f0, .int .i64 a.f1, .int .i64 a.f2, .slice Aa a.f3.length ca] 39)).alloc (.cells #[.string b.f0, .int .i64 b.f1, .int .i64 b.f2, .slice Ab b.f3.length cb] 39)).alloc (.cells #[.string d.f0, .int .i64 d.f1, .int .i64 d.f2, .slice Ad d.f3.length cd] 39)).drew at HB
  refine start_ (n := 12) (S := fun w' => w'.cell? ⟨w.heap.size, 0, none⟩ = some (.string a.f0) ∧ w'.cell? ⟨w.heap.size, 1, none⟩ = some (.int .i64 a.f1) ∧ w'.cell? ⟨w.heap.size, 2, none⟩ = some (.int .i64 a.f2) ∧ w'.cell? ⟨w.heap.size, 3, none⟩ = some (.slice Aa a.f3.length ca) ∧ w'.cell? ⟨w.heap.size + 1, 0, none⟩ = some (.string b.f0) ∧ w'.cell? ⟨w.heap.size + 1, 1, none⟩ = some (.int .i64 b.f1) ∧ w'.cell? ⟨w.heap.size + 1, 2, none⟩ = some (.int .i64 b.f2) ∧ w'.cell? ⟨w.heap.size + 1, 3, none⟩ = some (.slice Ab b.f3.length cb) ∧ w'.cell? ⟨w.heap.size + 1 + 1, 0, none⟩ = some (.string d.f0) ∧ w'.cell? ⟨w.heap.size + 1 + 1, 1, none⟩ = some (.int .i64 d.f1) ∧ w'.cell? ⟨w.heap.size + 1 + 1, 2, none⟩ = some (.int .i64 d.f2) ∧ w'.cell? ⟨w.heap.size + 1 + 1, 3, none⟩ = some (.slice Ad d.f3.length cd)) (ds := []) #[false, false, false, false, false, false, false, false, false, false, false, false] (by kernel_rfl) rfl rfl ⟨(blk_cell B0 0).trans rfl, (blk_cell B0 1).trans rfl, (blk_cell B0 2).trans rfl, (blk_cell B0 3).trans rfl, (blk_cell B1 0).trans rfl, (blk_cell B1 1).trans rfl, (blk_cell B1 2).trans rfl, (blk_cell B1 3).trans rfl, (blk_cell B2 0).trans rfl, (blk_cell B2 1).trans rfl, (blk_cell B2 2).trans rfl, (blk_cell B2 3).trans rfl⟩ (fun hHeld => ?_)
  generalize (((w.alloc (.cells #[.string a.f0, .int .i64 a.f1, .int .i64 a.f2, .slice Aa a.f3.length ca] 39)).alloc (.cells #[.string b.f0, .int .i64 b.f1, .int .i64 b.f2, .slice Ab b.f3.length cb] 39)).alloc (.cells #[.string d.f0, .int .i64 d.f1, .int .i64 d.f2, .slice Ad d.f3.length cd] 39)).drew = U0 at B0 B1 B2 HB hHeld ⊢
  refine take_ (i := 0) (N := some 27) (v := ?_) (a' := ?_) #[true, false, false, false, false, false, false, false, false, false, false, false] rfl rfl (by kernel_rfl) (fun _ _ _ h => h) (Or.inl ⟨by rfl, ?_⟩) hHeld ?_ ?_
  rotate_left
  · rintro w' ⟨s0, s1, s2, s3, s4, s5, s6, s7, s8, s9, s10, s11⟩
    go_simp
    with_reducible rfl
  rotate_left
  · simp only [Act.put, List.setIfInBounds_toArray, List.set_cons_zero, List.set_cons_succ, i64_w, i32_w]
    rfl
  refine take_ (i := 1) (N := some 28) (v := ?_) (a' := ?_) #[true, true, false, false, false, false, false, false, false, false, false, false] rfl rfl (by kernel_rfl) (fun _ _ _ h => h) (Or.inl ⟨by rfl, ?_⟩) hHeld ?_ ?_
  rotate_left
  · rintro w' ⟨s0, s1, s2, s3, s4, s5, s6, s7, s8, s9, s10, s11⟩
    go_simp
    with_reducible rfl
  rotate_left
  · simp only [Act.put, List.setIfInBounds_toArray, List.set_cons_zero, List.set_cons_succ, i64_w, i32_w]
    rfl
  refine take_ (i := 3) (N := some 30) (v := ?_) (a' := ?_) #[true, true, false, true, false, false, false, false, false, false, false, false] rfl rfl (by kernel_rfl) (fun _ _ _ h => h) (Or.inl ⟨by rfl, ?_⟩) hHeld ?_ ?_
  rotate_left
  · rintro w' ⟨s0, s1, s2, s3, s4, s5, s6, s7, s8, s9, s10, s11⟩
    go_simp
    with_reducible rfl
  rotate_left
  · simp only [Act.put, List.setIfInBounds_toArray, List.set_cons_zero, List.set_cons_succ, i64_w, i32_w]
    rfl
  refine take_ (i := 4) (N := some 31) (v := ?_) (a' := ?_) #[true, true, false, true, true, false, false, false, false, false, false, false] rfl rfl (by kernel_rfl) (fun _ _ _ h => h) (Or.inl ⟨by rfl, ?_⟩) hHeld ?_ ?_
  rotate_left
  · rintro w' ⟨s0, s1, s2, s3, s4, s5, s6, s7, s8, s9, s10, s11⟩
    go_simp
    with_reducible rfl
  rotate_left
  · simp only [Act.put, List.setIfInBounds_toArray, List.set_cons_zero, List.set_cons_succ, i64_w, i32_w]
    rfl
  refine take_ (i := 6) (N := some 33) (v := ?_) (a' := ?_) #[true, true, false, true, true, false, true, false, false, false, false, false] rfl rfl (by kernel_rfl) (fun _ _ _ h => h) (Or.inl ⟨by rfl, ?_⟩) hHeld ?_ ?_
  rotate_left
  · rintro w' ⟨s0, s1, s2, s3, s4, s5, s6, s7, s8, s9, s10, s11⟩
    go_simp
    with_reducible rfl
  rotate_left
  · simp only [Act.put, List.setIfInBounds_toArray, List.set_cons_zero, List.set_cons_succ, i64_w, i32_w]
    rfl
  refine take_ (i := 7) (N := some 34) (v := ?_) (a' := ?_) #[true, true, false, true, true, false, true, true, false, false, false, false] rfl rfl (by kernel_rfl) (fun _ _ _ h => h) (Or.inl ⟨by rfl, ?_⟩) hHeld ?_ ?_
  rotate_left
  · rintro w' ⟨s0, s1, s2, s3, s4, s5, s6, s7, s8, s9, s10, s11⟩
    go_simp
    with_reducible rfl
  rotate_left
  · simp only [Act.put, List.setIfInBounds_toArray, List.set_cons_zero, List.set_cons_succ, i64_w, i32_w]
    rfl
  refine one_ (i := 2) (N := some 29) #[true, true, true, true, true, false, true, true, false, false, false, false] rfl rfl (by kernel_rfl) (by decide) (fun K hK => ?_)
  refine goes_ Try.func18 (by kernel_rfl) rfl #[.agg #[.string a.f0, .int .i64 a.f1, .int .i64 a.f2, .slice Aa a.f3.length ca], .agg #[.string b.f0, .int .i64 b.f1, .int .i64 b.f2, .slice Ab b.f3.length cb]] (by rfl) rfl rfl (by simp only [List.map_toArray, List.map_cons, List.map_nil]; rfl) ?_
  have hcn := CompareRegions_calls a b Aa Ab ca cb U0 (Kd.C_below Ra.out HB) (Kd.C_below Rb.out HB)
  rw [← hp.out] at hcn
  with_reducible refine (hcn).mono ?_
  rintro e U1 ⟨rfl, hb⟩
  clear hcn
  replace B0 := blk_below B0 hb
  replace B1 := blk_below B1 hb
  replace B2 := blk_below B2 hb
  replace HB := below_step HB hb
  clear hb
  refine ⟨_, rfl, ?_⟩
  refine hK.out _ _ ⟨(blk_cell B0 0).trans rfl, (blk_cell B0 1).trans rfl, (blk_cell B0 2).trans rfl, (blk_cell B0 3).trans rfl, (blk_cell B1 0).trans rfl, (blk_cell B1 1).trans rfl, (blk_cell B1 2).trans rfl, (blk_cell B1 3).trans rfl, (blk_cell B2 0).trans rfl, (blk_cell B2 1).trans rfl, (blk_cell B2 2).trans rfl, (blk_cell B2 3).trans rfl⟩ (fun hHeld => ?_)
  clear hK K
  refine norm_ (a' := ?_) ?_ ?_
  rotate_left
  · show Act.put _ (some 29) _ = _
    simp only [Act.put, List.setIfInBounds_toArray, List.set_cons_zero, List.set_cons_succ, i64_w, i32_w]
    rfl
  refine one_ (i := 5) (N := some 32) #[true, true, true, true, true, true, true, true, false, false, false, false] rfl rfl (by kernel_rfl) (by decide) (fun K hK => ?_)
  refine goes_ Try.func18 (by kernel_rfl) rfl #[.agg #[.string b.f0, .int .i64 b.f1, .int .i64 b.f2, .slice Ab b.f3.length cb], .agg #[.string d.f0, .int .i64 d.f1, .int .i64 d.f2, .slice Ad d.f3.length cd]] (by rfl) rfl rfl (by simp only [List.map_toArray, List.map_cons, List.map_nil]; rfl) ?_
  have hcn := CompareRegions_calls b d Ab Ad cb cd U1 (Kd.C_below Rb.out HB) (Kd.C_below Rd.out HB)
  rw [← hq.out] at hcn
  with_reducible refine (hcn).mono ?_
  rintro e U2 ⟨rfl, hb⟩
  clear hcn
  replace B0 := blk_below B0 hb
  replace B1 := blk_below B1 hb
  replace B2 := blk_below B2 hb
  replace HB := below_step HB hb
  clear hb
  refine ⟨_, rfl, ?_⟩
  refine hK.out _ _ ⟨(blk_cell B0 0).trans rfl, (blk_cell B0 1).trans rfl, (blk_cell B0 2).trans rfl, (blk_cell B0 3).trans rfl, (blk_cell B1 0).trans rfl, (blk_cell B1 1).trans rfl, (blk_cell B1 2).trans rfl, (blk_cell B1 3).trans rfl, (blk_cell B2 0).trans rfl, (blk_cell B2 1).trans rfl, (blk_cell B2 2).trans rfl, (blk_cell B2 3).trans rfl⟩ (fun hHeld => ?_)
  clear hK K
  refine norm_ (a' := ?_) ?_ ?_
  rotate_left
  · show Act.put _ (some 32) _ = _
    simp only [Act.put, List.setIfInBounds_toArray, List.set_cons_zero, List.set_cons_succ, i64_w, i32_w]
    rfl
  refine one_ (i := 8) (N := some 35) #[true, true, true, true, true, true, true, true, true, false, false, false] rfl rfl (by kernel_rfl) (by decide) (fun K hK => ?_)
  refine goes_ Try.func18 (by kernel_rfl) rfl #[.agg #[.string a.f0, .int .i64 a.f1, .int .i64 a.f2, .slice Aa a.f3.length ca], .agg #[.string d.f0, .int .i64 d.f1, .int .i64 d.f2, .slice Ad d.f3.length cd]] (by rfl) rfl rfl (by simp only [List.map_toArray, List.map_cons, List.map_nil]; rfl) ?_
  have hcn := CompareRegions_calls a d Aa Ad ca cd U2 (Kd.C_below Ra.out HB) (Kd.C_below Rd.out HB)
  rw [← hr.out] at hcn
  with_reducible refine (hcn).mono ?_
  rintro e U3 ⟨rfl, hb⟩
  clear hcn
  replace B0 := blk_below B0 hb
  replace B1 := blk_below B1 hb
  replace B2 := blk_below B2 hb
  replace HB := below_step HB hb
  clear hb
  refine ⟨_, rfl, ?_⟩
  refine hK.out _ _ ⟨(blk_cell B0 0).trans rfl, (blk_cell B0 1).trans rfl, (blk_cell B0 2).trans rfl, (blk_cell B0 3).trans rfl, (blk_cell B1 0).trans rfl, (blk_cell B1 1).trans rfl, (blk_cell B1 2).trans rfl, (blk_cell B1 3).trans rfl, (blk_cell B2 0).trans rfl, (blk_cell B2 1).trans rfl, (blk_cell B2 2).trans rfl, (blk_cell B2 3).trans rfl⟩ (fun hHeld => ?_)
  clear hK K
  refine norm_ (a' := ?_) ?_ ?_
  rotate_left
  · show Act.put _ (some 35) _ = _
    simp only [Act.put, List.setIfInBounds_toArray, List.set_cons_zero, List.set_cons_succ, i64_w, i32_w]
    rfl
  refine pure_ (i := 9) (N := some 7) (v := ?_) (a' := ?_) #[true, true, true, true, true, true, true, true, true, true, false, false] rfl rfl (by kernel_rfl) (fun _ _ _ h => h) (Or.inl ⟨by rfl, ?_⟩) ?_ ?_
  rotate_left
  · intro w'
    go_simp
    with_reducible rfl
  rotate_left
  · simp only [Act.put, List.setIfInBounds_toArray, List.set_cons_zero, List.set_cons_succ, i64_w, i32_w]
    rfl
  refine pure_ (i := 10) (N := some 8) (v := ?_) (a' := ?_) #[true, true, true, true, true, true, true, true, true, true, true, false] rfl rfl (by kernel_rfl) (fun _ _ _ h => h) (Or.inl ⟨by rfl, ?_⟩) ?_ ?_
  rotate_left
  · intro w'
    go_simp
    with_reducible rfl
  rotate_left
  · simp only [Act.put, List.setIfInBounds_toArray, List.set_cons_zero, List.set_cons_succ, i64_w, i32_w]
    rfl
  refine pure_ (i := 11) (N := some 9) (v := ?_) (a' := ?_) #[true, true, true, true, true, true, true, true, true, true, true, true] rfl rfl (by kernel_rfl) (fun _ _ _ h => h) (Or.inl ⟨by rfl, ?_⟩) ?_ ?_
  rotate_left
  · intro w'
    go_simp
    with_reducible rfl
  rotate_left
  · simp only [Act.put, List.setIfInBounds_toArray, List.set_cons_zero, List.set_cons_succ, i64_w, i32_w]
    rfl
  refine done_ (by kernel_rfl) ?_
  clear hHeld
  have D0 := blk_alloc (blk_new U3 (.cells #[.string a.f0, .int .i64 a.f1, .int .i64 a.f2, .slice Aa a.f3.length ca] 39)) (.cells #[.string b.f0, .int .i64 b.f1, .int .i64 b.f2, .slice Ab b.f3.length cb] 39)
  have D1 := blk_new (U3.alloc (.cells #[.string a.f0, .int .i64 a.f1, .int .i64 a.f2, .slice Aa a.f3.length ca] 39)) (.cells #[.string b.f0, .int .i64 b.f1, .int .i64 b.f2, .slice Ab b.f3.length cb] 39)
  rw [World.size_alloc] at D1
  have HV : Below w.heap.size w ((U3.alloc (.cells #[.string a.f0, .int .i64 a.f1, .int .i64 a.f2, .slice Aa a.f3.length ca] 39)).alloc (.cells #[.string b.f0, .int .i64 b.f1, .int .i64 b.f2, .slice Ab b.f3.length cb] 39)) := below_alloc (below_alloc HB _) _
  have hE : Calls Try.prog 20 #[.agg #[.slice none 0 0, .slice none 0 0, .slice none 0 0, .slice (some ⟨U3.heap.size, 0, none⟩) 1 1, .slice none 0 0, .slice none 0 0, .slice none 0 0], .agg #[.slice none 0 0, .slice none 0 0, .slice none 0 0, .slice (some ⟨U3.heap.size + 1, 0, none⟩) 1 1, .slice none 0 0, .slice none 0 0, .slice none 0 0]] ((U3.alloc (.cells #[.string a.f0, .int .i64 a.f1, .int .i64 a.f2, .slice Aa a.f3.length ca] 39)).alloc (.cells #[.string b.f0, .int .i64 b.f1, .int .i64 b.f2, .slice Ab b.f3.length cb] 39)) fun e w' => e = .returned (.bool (p == 0)) ∧ Below ((U3.alloc (.cells #[.string a.f0, .int .i64 a.f1, .int .i64 a.f2, .slice Aa a.f3.length ca] 39)).alloc (.cells #[.string b.f0, .int .i64 b.f1, .int .i64 b.f2, .slice Ab b.f3.length cb] 39)).heap.size ((U3.alloc (.cells #[.string a.f0, .int .i64 a.f1, .int .i64 a.f2, .slice Aa a.f3.length ca] 39)).alloc (.cells #[.string b.f0, .int .i64 b.f1, .int .i64 b.f2, .slice Ab b.f3.length cb] 39)) w' :=
    (rEqual_calls _ _ _ _ _ (K_one (cs := [.string a.f0, .int .i64 a.f1, .int .i64 a.f2, .slice Aa a.f3.length ca]) D0 (k39.K_below HV HKa.out)) (K_one (cs := [.string b.f0, .int .i64 b.f1, .int .i64 b.f2, .slice Ab b.f3.length cb]) D1 (k39.K_below HV HKb.out))).mono fun e w' h => ⟨h.1.trans (by rw [eq30_one, HZ.out]), h.2⟩
  have x0 := (blk_cell B0 0).trans rfl
  have x1 := (blk_cell B0 1).trans rfl
  have x2 := (blk_cell B0 2).trans rfl
  have x3 := (blk_cell B0 3).trans rfl
  have y0 := (blk_cell B1 0).trans rfl
  have y1 := (blk_cell B1 1).trans rfl
  have y2 := (blk_cell B1 2).trans rfl
  have y3 := (blk_cell B1 3).trans rfl
  have hlt1 : w.heap.size + 1 < U3.heap.size := blk_lt B1
  go_upto_region 5 with (go_at_call 20; refine hE.mono ?_; rintro e w5 ⟨rfl, hb⟩)
  replace B0 := blk_below (blk_alloc (blk_alloc B0 (.cells #[.string a.f0, .int .i64 a.f1, .int .i64 a.f2, .slice Aa a.f3.length ca] 39)) (.cells #[.string b.f0, .int .i64 b.f1, .int .i64 b.f2, .slice Ab b.f3.length cb] 39)) hb
  replace B1 := blk_below (blk_alloc (blk_alloc B1 (.cells #[.string a.f0, .int .i64 a.f1, .int .i64 a.f2, .slice Aa a.f3.length ca] 39)) (.cells #[.string b.f0, .int .i64 b.f1, .int .i64 b.f2, .slice Ab b.f3.length cb] 39)) hb
  replace HB := below_step HV hb
  clear hE D0 D1 HV hb x0 x1 x2 x3 y0 y1 y2 y3 HZ HKa HKb Rd B2 hlt1
  have x0 := (blk_cell B0 0).trans rfl
  have x1 := (blk_cell B0 1).trans rfl
  have x2 := (blk_cell B0 2).trans rfl
  have x3 := (blk_cell B0 3).trans rfl
  have y0 := (blk_cell B1 0).trans rfl
  have y1 := (blk_cell B1 1).trans rfl
  have y2 := (blk_cell B1 2).trans rfl
  have y3 := (blk_cell B1 3).trans rfl
  have hC : Calls Try.prog 18 #[.agg #[.string b.f0, .int .i64 b.f1, .int .i64 b.f2, .slice Ab b.f3.length cb], .agg #[.string a.f0, .int .i64 a.f1, .int .i64 a.f2, .slice Aa a.f3.length ca]] w5 fun e w' => e = .returned (.int .i64 (-p)) ∧ Below w5.heap.size w5 w' :=
    (CompareRegions_calls b a Ab Aa cb ca w5 (Kd.C_below Rb.out HB) (Kd.C_below Ra.out HB)).mono fun e w' h => ⟨h.1.trans (by rw [ordR.anti a b, ← hp.out]), h.2⟩
  clear Ra Rb hp hq hr B0 B1
  obtain ⟨⟨hp1, hp2⟩, ⟨hq1, hq2⟩, ⟨hr1, hr2⟩, t1, t2⟩ := T.out
  clear T
  have ep : p = -1 ∨ p = 0 ∨ p = 1 := by omega
  have eq : q = -1 ∨ q = 0 ∨ q = 1 := by omega
  have er : r = -1 ∨ r = 0 ∨ r = 1 := by omega
  clear hp1 hp2 hq1 hq2 hr1 hr2
  rcases ep with rfl | rfl | rfl <;> rcases eq with rfl | rfl | rfl <;> rcases er with rfl | rfl | rfl <;> first
    | (exfalso; have := t1 (by decide) (by decide); omega)
    | (exfalso; have := t2 (by decide) (by decide); omega)
    | (clear t1 t2
       go_wp2_with (first | (go_at_call 18; refine hC.mono ?_; rintro e w6 ⟨rfl, hb6⟩) | (go_at_call 17; refine (awake_calls _).mono ?_; rintro e w7 ⟨rfl, hb7⟩))
       go_ret
       exact ⟨rfl, below_step (below_step HB hb6) hb7⟩)
end Go.Proofs.Ytkdgholmfnidkaa
