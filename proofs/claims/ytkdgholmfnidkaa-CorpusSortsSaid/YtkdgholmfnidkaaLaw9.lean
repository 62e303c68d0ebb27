/- The law CorpusEquals returns true whatever came in: no condition. -/
import Derived.Test.YtkdgholmfnidkaaS
namespace Go.Proofs.Ytkdgholmfnidkaa
open Go.RowKit Go.Proofs.YtkdgholmfnidkaaW.PrintWords Go.Proofs.YtkdgholmfnidkaaW.PrintLast Go.Proofs.YtkdgholmfnidkaaW.PrintMore
theorem eqBy_refl {α : Type} {f : α → α → Bool} (h : ∀ a, f a a = true) : ∀ l : List α, eqBy f l l = true
  | [] => rfl
  | a :: l => by rw [eqBy, h, eqBy_refl h l]; rfl
theorem eqBy_comm {α : Type} {f : α → α → Bool} (h : ∀ a b, f a b = f b a) : ∀ l m : List α, eqBy f l m = eqBy f m l
  | [], [] => rfl
  | a :: l, b :: m => by rw [eqBy, eqBy, h a b, eqBy_comm h l m]
  | [], _ :: _ => rfl
  | _ :: _, [] => rfl
theorem bytes_comm (a b : ByteArray) : (a.toList == b.toList) = (b.toList == a.toList) := by rw [Bool.eq_iff_iff, beq_iff_eq, beq_iff_eq]; exact eq_comm
theorem int_comm (a b : Int) : (a == b) = (b == a) := by rw [Bool.eq_iff_iff, beq_iff_eq, beq_iff_eq]; exact eq_comm
theorem bool_comm (a b : Bool) : (a == b) = (b == a) := by cases a <;> cases b <;> rfl
theorem eq30_refl (x : S30) : eq30 x x = true := by
  have h70 : ∀ a, e70 a a = true := fun a => by simp [e70]
  have h1 : ∀ a, eqBy eS a a = true := fun a => eqBy_refl (fun s => by simp [eS]) a
  have h64 : ∀ a, e64 a a = true := fun a => by simp [e64, eqBy_refl h70]
  have h39 : ∀ a, e39 a a = true := fun a => by simp [e39, eqBy_refl h70]
  simp only [eq30, eqBy_refl (f := e62) (fun a => by simp [e62]), eqBy_refl h1, eqBy_refl h64, eqBy_refl h39, eqBy_refl (f := e74) (fun a => by simp [e74]), eqBy_refl (f := eI) (fun a => by simp [eI]), h1, Bool.and_self]
theorem eq30_comm (x y : S30) : eq30 x y = eq30 y x := by
  have hS : ∀ a b, eqBy eS a b = eqBy eS b a := eqBy_comm fun a b => by rw [eS, eS, bytes_comm]
  have h70 : ∀ a b, eqBy e70 a b = eqBy e70 b a := eqBy_comm fun a b => by rw [e70, e70, bytes_comm a.f0, bytes_comm a.f1]
  rw [eq30, eq30, eqBy_comm (f := e62) (fun a b => by rw [e62, e62, bytes_comm a.f0, bool_comm]) x.f0, eqBy_comm hS x.f1, eqBy_comm (f := e64) (fun a b => by rw [e64, e64, bytes_comm a.f0, int_comm a.f1, int_comm a.f2, h70]) x.f2,
    eqBy_comm (f := e39) (fun a b => by rw [e39, e39, bytes_comm a.f0, int_comm a.f1, int_comm a.f2, h70]) x.f3, eqBy_comm (f := e74) (fun a b => by rw [e74, e74, bytes_comm a.f0, int_comm a.f1, int_comm a.f2, int_comm a.f3]) x.f4, eqBy_comm (f := eI) (fun a b => by rw [eI, eI, int_comm]) x.f5, hS x.f6]
set_option maxHeartbeats 8000000 in
set_option maxRecDepth 100000 in
theorem law9_calls (x : S30) (cs : List Value) (y : S30) (cs' : List Value) (w : World) (hx : k30.K w x cs) (_ : okC x) (_ : okI x) (hy : k30.K w y cs') (_ : okC y) (_ : okI y) :
    Calls Try.prog 9 #[.agg cs.toArray, .agg cs'.toArray] w fun e w' => e = .returned (.bool true) ∧ Below w.heap.size w w' := by
  have hu30 := Try.underlying30
  have HX := Aside0.mk hx
  have HY := Aside0.mk hy
  obtain ⟨A0, c0, A1, c1, A2, c2, A3, c3, A4, c4, A5, c5, A6, c6, rfl, l0, g0, l1, g1, l2, g2, l3, g3, l4, g4, l5, g5, l6, g6⟩ := k30_open hx
  obtain ⟨A0', c0', A1', c1', A2', c2', A3', c3', A4', c4', A5', c5', A6', c6', rfl, l0', g0', l1', g1', l2', g2', l3', g3', l4', g4', l5', g5', l6', g6'⟩ := k30_open hy
  clear hx hy
  have HB := Bx2.mk0 w #[.slice A0 x.f0.length c0, .slice A1 x.f1.length c1, .slice A2 x.f2.length c2, .slice A3 x.f3.length c3, .slice A4 x.f4.length c4, .slice A5 x.f5.length c5, .slice A6 x.f6.length c6] #[.slice A0' y.f0.length c0', .slice A1' y.f1.length c1', .slice A2' y.f2.length c2', .slice A3' y.f3.length c3', .slice A4' y.f4.length c4', .slice A5' y.f5.length c5', .slice A6' y.f6.length c6']
  have HB2 := HB.alloc (.cells #[.slice A0 x.f0.length c0, .slice A1 x.f1.length c1, .slice A2 x.f2.length c2, .slice A3 x.f3.length c3, .slice A4 x.f4.length c4, .slice A5 x.f5.length c5, .slice A6 x.f6.length c6, .slice A0' y.f0.length c0', .slice A1' y.f1.length c1', .slice A2' y.f2.length c2', .slice A3' y.f3.length c3', .slice A4' y.f4.length c4', .slice A5' y.f5.length c5', .slice A6' y.f6.length c6'] 30)
  have B2 := blk_new ((w.alloc (.cells #[.slice A0 x.f0.length c0, .slice A1 x.f1.length c1, .slice A2 x.f2.length c2, .slice A3 x.f3.length c3, .slice A4 x.f4.length c4, .slice A5 x.f5.length c5, .slice A6 x.f6.length c6] 30)).alloc (.cells #[.slice A0' y.f0.length c0', .slice A1' y.f1.length c1', .slice A2' y.f2.length c2', .slice A3' y.f3.length c3', .slice A4' y.f4.length c4', .slice A5' y.f5.length c5', .slice A6' y.f6.length c6'] 30)) (.cells #[.slice A0 x.f0.length c0, .slice A1 x.f1.length c1, .slice A2 x.f2.length c2, .slice A3 x.f3.length c3, .slice A4 x.f4.length c4, .slice A5 x.f5.length c5, .slice A6 x.f6.length c6, .slice A0' y.f0.length c0', .slice A1' y.f1.length c1', .slice A2' y.f2.length c2', .slice A3' y.f3.length c3', .slice A4' y.f4.length c4', .slice A5' y.f5.length c5', .slice A6' y.f6.length c6'] 30)
  have HH := heavy_calls (some ⟨w.heap.size + 1 + 1, 0, none⟩) 2 [x, y] (((w.alloc (.cells #[.slice A0 x.f0.length c0, .slice A1 x.f1.length c1, .slice A2 x.f2.length c2, .slice A3 x.f3.length c3, .slice A4 x.f4.length c4, .slice A5 x.f5.length c5, .slice A6 x.f6.length c6] 30)).alloc (.cells #[.slice A0' y.f0.length c0', .slice A1' y.f1.length c1', .slice A2' y.f2.length c2', .slice A3' y.f3.length c3', .slice A4' y.f4.length c4', .slice A5' y.f5.length c5', .slice A6' y.f6.length c6'] 30)).alloc (.cells #[.slice A0 x.f0.length c0, .slice A1 x.f1.length c1, .slice A2 x.f2.length c2, .slice A3 x.f3.length c3, .slice A4 x.f4.length c4, .slice A5 x.f5.length c5, .slice A6 x.f6.length c6, .slice A0' y.f0.length c0', .slice A1' y.f1.length c1', .slice A2' y.f2.length c2', .slice A3' y.f3.length c3', .slice A4' y.f4.length c4', .slice A5' y.f5.length c5', .slice A6' y.f6.length c6'] 30)) (C_blk k30 (cs := [.slice A0 x.f0.length c0, .slice A1 x.f1.length c1, .slice A2 x.f2.length c2, .slice A3 x.f3.length c3, .slice A4 x.f4.length c4, .slice A5 x.f5.length c5, .slice A6 x.f6.length c6, .slice A0' y.f0.length c0', .slice A1' y.f1.length c1', .slice A2' y.f2.length c2', .slice A3' y.f3.length c3', .slice A4' y.f4.length c4', .slice A5' y.f5.length c5', .slice A6' y.f6.length c6']) (by rw [World.size_alloc, World.size_alloc] at B2; exact B2) (Reps.front (c := [.slice A0 x.f0.length c0, .slice A1 x.f1.length c1, .slice A2 x.f2.length c2, .slice A3 x.f3.length c3, .slice A4 x.f4.length c4, .slice A5 x.f5.length c5, .slice A6 x.f6.length c6]) (k30.K_below HB2.be HX.out) rfl (Reps.front (c := [.slice A0' y.f0.length c0', .slice A1' y.f1.length c1', .slice A2' y.f2.length c2', .slice A3' y.f3.length c3', .slice A4' y.f4.length c4', .slice A5' y.f5.length c5', .slice A6' y.f6.length c6']) (k30.K_below HB2.be HY.out) rfl (Reps.none _ _) rfl) rfl) (by simp))
  clear B2 g0 g0' g1 g1' g2 g2' g3 g3' g4 g4' g5 g5' g6 g6'
  go_enter Try.func9, Try.ntmps9
  go_wp2_with (go_at_call 14; refine HH.mono ?_; rintro e w1 ⟨⟨b, rfl⟩, hb⟩)
  · go_ret
    exact ⟨rfl, below_step HB2.be hb⟩
  replace HB := (HB2.step hb).drewN 1
  change Bx2 _ _ _ w1.drew at HB
  clear HH hb HB2
  refine start_ (n := 25) (S := fun w' => w'.cell? ⟨w.heap.size, 0, none⟩ = some (.slice A0 x.f0.length c0) ∧ w'.cell? ⟨w.heap.size, 1, none⟩ = some (.slice A1 x.f1.length c1) ∧ w'.cell? ⟨w.heap.size, 2, none⟩ = some (.slice A2 x.f2.length c2) ∧ w'.cell? ⟨w.heap.size, 3, none⟩ = some (.slice A3 x.f3.length c3) ∧ w'.cell? ⟨w.heap.size, 4, none⟩ = some (.slice A4 x.f4.length c4) ∧ w'.cell? ⟨w.heap.size, 5, none⟩ = some (.slice A5 x.f5.length c5) ∧ w'.cell? ⟨w.heap.size, 6, none⟩ = some (.slice A6 x.f6.length c6) ∧ w'.cell? ⟨w.heap.size + 1, 0, none⟩ = some (.slice A0' y.f0.length c0') ∧ w'.cell? ⟨w.heap.size + 1, 1, none⟩ = some (.slice A1' y.f1.length c1') ∧ w'.cell? ⟨w.heap.size + 1, 2, none⟩ = some (.slice A2' y.f2.length c2') ∧ w'.cell? ⟨w.heap.size + 1, 3, none⟩ = some (.slice A3' y.f3.length c3') ∧ w'.cell? ⟨w.heap.size + 1, 4, none⟩ = some (.slice A4' y.f4.length c4') ∧ w'.cell? ⟨w.heap.size + 1, 5, none⟩ = some (.slice A5' y.f5.length c5') ∧ w'.cell? ⟨w.heap.size + 1, 6, none⟩ = some (.slice A6' y.f6.length c6')) (ds := []) #[false, false, false, false, false, false, false, false, false, false, false, false, false, false, false, false, false, false, false, false, false, false, false, false, false] (by kernel_rfl) rfl rfl ⟨(blk_cell HB.b0 0).trans rfl, (blk_cell HB.b0 1).trans rfl, (blk_cell HB.b0 2).trans rfl, (blk_cell HB.b0 3).trans rfl, (blk_cell HB.b0 4).trans rfl, (blk_cell HB.b0 5).trans rfl, (blk_cell HB.b0 6).trans rfl, (blk_cell HB.b1 0).trans rfl, (blk_cell HB.b1 1).trans rfl, (blk_cell HB.b1 2).trans rfl, (blk_cell HB.b1 3).trans rfl, (blk_cell HB.b1 4).trans rfl, (blk_cell HB.b1 5).trans rfl, (blk_cell HB.b1 6).trans rfl⟩ (fun hHeld => ?_)
  generalize w1.drew = U0 at HB hHeld ⊢
  refine take_ (i := 0) (N := some 9) (v := ?_) (a' := ?_) #[true, false, false, false, false, false, false, false, false, false, false, false, false, false, false, false, false, false, false, false, false, false, false, false, false] rfl rfl (by kernel_rfl) (fun _ _ _ h => h) (Or.inl ⟨by rfl, ?_⟩) hHeld ?_ ?_
  rotate_left
  · rintro w' ⟨s0, s1, s2, s3, s4, s5, s6, s7, s8, s9, s10, s11, s12, s13⟩
    go_simp
    with_reducible rfl
  rotate_left
  · simp only [Act.put, List.setIfInBounds_toArray, List.set_cons_zero, List.set_cons_succ, i64_w, i32_w]
    rfl
  refine take_ (i := 1) (N := some 10) (v := ?_) (a' := ?_) #[true, true, false, false, false, false, false, false, false, false, false, false, false, false, false, false, false, false, false, false, false, false, false, false, false] rfl rfl (by kernel_rfl) (fun _ _ _ h => h) (Or.inl ⟨by rfl, ?_⟩) hHeld ?_ ?_
  rotate_left
  · rintro w' ⟨s0, s1, s2, s3, s4, s5, s6, s7, s8, s9, s10, s11, s12, s13⟩
    go_simp
    with_reducible rfl
  rotate_left
  · simp only [Act.put, List.setIfInBounds_toArray, List.set_cons_zero, List.set_cons_succ, i64_w, i32_w]
    rfl
  refine take_ (i := 3) (N := some 12) (v := ?_) (a' := ?_) #[true, true, false, true, false, false, false, false, false, false, false, false, false, false, false, false, false, false, false, false, false, false, false, false, false] rfl rfl (by kernel_rfl) (fun _ _ _ h => h) (Or.inl ⟨by rfl, ?_⟩) hHeld ?_ ?_
  rotate_left
  · rintro w' ⟨s0, s1, s2, s3, s4, s5, s6, s7, s8, s9, s10, s11, s12, s13⟩
    go_simp
    with_reducible rfl
  rotate_left
  · simp only [Act.put, List.setIfInBounds_toArray, List.set_cons_zero, List.set_cons_succ, i64_w, i32_w]
    rfl
  refine take_ (i := 4) (N := some 13) (v := ?_) (a' := ?_) #[true, true, false, true, true, false, false, false, false, false, false, false, false, false, false, false, false, false, false, false, false, false, false, false, false] rfl rfl (by kernel_rfl) (fun _ _ _ h => h) (Or.inl ⟨by rfl, ?_⟩) hHeld ?_ ?_
  rotate_left
  · rintro w' ⟨s0, s1, s2, s3, s4, s5, s6, s7, s8, s9, s10, s11, s12, s13⟩
    go_simp
    with_reducible rfl
  rotate_left
  · simp only [Act.put, List.setIfInBounds_toArray, List.set_cons_zero, List.set_cons_succ, i64_w, i32_w]
    rfl
  refine one_ (i := 2) (N := some 11) #[true, true, true, true, true, false, false, false, false, false, false, false, false, false, false, false, false, false, false, false, false, false, false, false, false] rfl rfl (by kernel_rfl) (by decide) (fun K hK => ?_)
  refine goes_ Try.func29 (by kernel_rfl) rfl #[.agg #[.slice A0 x.f0.length c0, .slice A1 x.f1.length c1, .slice A2 x.f2.length c2, .slice A3 x.f3.length c3, .slice A4 x.f4.length c4, .slice A5 x.f5.length c5, .slice A6 x.f6.length c6], .agg #[.slice A0' y.f0.length c0', .slice A1' y.f1.length c1', .slice A2' y.f2.length c2', .slice A3' y.f3.length c3', .slice A4' y.f4.length c4', .slice A5' y.f5.length c5', .slice A6' y.f6.length c6']] (by rfl) rfl rfl (by simp only [List.map_toArray, List.map_cons, List.map_nil]; rfl) ?_
  have hcn := Equal_calls x y [.slice A0 x.f0.length c0, .slice A1 x.f1.length c1, .slice A2 x.f2.length c2, .slice A3 x.f3.length c3, .slice A4 x.f4.length c4, .slice A5 x.f5.length c5, .slice A6 x.f6.length c6] [.slice A0' y.f0.length c0', .slice A1' y.f1.length c1', .slice A2' y.f2.length c2', .slice A3' y.f3.length c3', .slice A4' y.f4.length c4', .slice A5' y.f5.length c5', .slice A6' y.f6.length c6'] U0 (k30.K_below HB.be HX.out) (k30.K_below HB.be HY.out)
  change Calls Try.prog 29 #[.agg #[.slice A0 x.f0.length c0, .slice A1 x.f1.length c1, .slice A2 x.f2.length c2, .slice A3 x.f3.length c3, .slice A4 x.f4.length c4, .slice A5 x.f5.length c5, .slice A6 x.f6.length c6], .agg #[.slice A0' y.f0.length c0', .slice A1' y.f1.length c1', .slice A2' y.f2.length c2', .slice A3' y.f3.length c3', .slice A4' y.f4.length c4', .slice A5' y.f5.length c5', .slice A6' y.f6.length c6']] U0 _ at hcn
  with_reducible refine (hcn).mono ?_
  rintro e U1 ⟨rfl, hb⟩
  clear hcn
  replace HB := HB.step hb
  clear hb
  refine ⟨_, rfl, ?_⟩
  refine hK.out _ _ ⟨(blk_cell HB.b0 0).trans rfl, (blk_cell HB.b0 1).trans rfl, (blk_cell HB.b0 2).trans rfl, (blk_cell HB.b0 3).trans rfl, (blk_cell HB.b0 4).trans rfl, (blk_cell HB.b0 5).trans rfl, (blk_cell HB.b0 6).trans rfl, (blk_cell HB.b1 0).trans rfl, (blk_cell HB.b1 1).trans rfl, (blk_cell HB.b1 2).trans rfl, (blk_cell HB.b1 3).trans rfl, (blk_cell HB.b1 4).trans rfl, (blk_cell HB.b1 5).trans rfl, (blk_cell HB.b1 6).trans rfl⟩ (fun hHeld => ?_)
  clear hK K
  refine norm_ (a' := ?_) ?_ ?_
  rotate_left
  · show Act.put _ (some 11) _ = _
    simp only [Act.put, List.setIfInBounds_toArray, List.set_cons_zero, List.set_cons_succ, i64_w, i32_w]
    rfl
  refine one_ (i := 5) (N := some 14) #[true, true, true, true, true, true, false, false, false, false, false, false, false, false, false, false, false, false, false, false, false, false, false, false, false] rfl rfl (by kernel_rfl) (by decide) (fun K hK => ?_)
  refine goes_ Try.func20 (by kernel_rfl) rfl #[.agg #[.slice A0 x.f0.length c0, .slice A1 x.f1.length c1, .slice A2 x.f2.length c2, .slice A3 x.f3.length c3, .slice A4 x.f4.length c4, .slice A5 x.f5.length c5, .slice A6 x.f6.length c6], .agg #[.slice A0' y.f0.length c0', .slice A1' y.f1.length c1', .slice A2' y.f2.length c2', .slice A3' y.f3.length c3', .slice A4' y.f4.length c4', .slice A5' y.f5.length c5', .slice A6' y.f6.length c6']] (by rfl) rfl rfl (by simp only [List.map_toArray, List.map_cons, List.map_nil]; rfl) ?_
  have hcn := rEqual_calls x y [.slice A0 x.f0.length c0, .slice A1 x.f1.length c1, .slice A2 x.f2.length c2, .slice A3 x.f3.length c3, .slice A4 x.f4.length c4, .slice A5 x.f5.length c5, .slice A6 x.f6.length c6] [.slice A0' y.f0.length c0', .slice A1' y.f1.length c1', .slice A2' y.f2.length c2', .slice A3' y.f3.length c3', .slice A4' y.f4.length c4', .slice A5' y.f5.length c5', .slice A6' y.f6.length c6'] U1 (k30.K_below HB.be HX.out) (k30.K_below HB.be HY.out)
  change Calls Try.prog 20 #[.agg #[.slice A0 x.f0.length c0, .slice A1 x.f1.length c1, .slice A2 x.f2.length c2, .slice A3 x.f3.length c3, .slice A4 x.f4.length c4, .slice A5 x.f5.length c5, .slice A6 x.f6.length c6], .agg #[.slice A0' y.f0.length c0', .slice A1' y.f1.length c1', .slice A2' y.f2.length c2', .slice A3' y.f3.length c3', .slice A4' y.f4.length c4', .slice A5' y.f5.length c5', .slice A6' y.f6.length c6']] U1 _ at hcn
  with_reducible refine (hcn).mono ?_
  rintro e U2 ⟨rfl, hb⟩
  clear hcn
  replace HB := HB.step hb
  clear hb
  refine ⟨_, rfl, ?_⟩
  refine hK.out _ _ ⟨(blk_cell HB.b0 0).trans rfl, (blk_cell HB.b0 1).trans rfl, (blk_cell HB.b0 2).trans rfl, (blk_cell HB.b0 3).trans rfl, (blk_cell HB.b0 4).trans rfl, (blk_cell HB.b0 5).trans rfl, (blk_cell HB.b0 6).trans rfl, (blk_cell HB.b1 0).trans rfl, (blk_cell HB.b1 1).trans rfl, (blk_cell HB.b1 2).trans rfl, (blk_cell HB.b1 3).trans rfl, (blk_cell HB.b1 4).trans rfl, (blk_cell HB.b1 5).trans rfl, (blk_cell HB.b1 6).trans rfl⟩ (fun hHeld => ?_)
  clear hK K
  refine norm_ (a' := ?_) ?_ ?_
  rotate_left
  · show Act.put _ (some 14) _ = _
    simp only [Act.put, List.setIfInBounds_toArray, List.set_cons_zero, List.set_cons_succ, i64_w, i32_w]
    rfl
  refine pure_ (i := 6) (N := some 15) (v := ?_) (a' := ?_) #[true, true, true, true, true, true, true, false, false, false, false, false, false, false, false, false, false, false, false, false, false, false, false, false, false] rfl rfl (by kernel_rfl) (fun _ _ _ h => h) (Or.inl ⟨by rfl, ?_⟩) ?_ ?_
  rotate_left
  · intro w'
    go_simp
    with_reducible rfl
  rotate_left
  · simp only [Act.put, List.setIfInBounds_toArray, List.set_cons_zero, List.set_cons_succ, i64_w, i32_w]
    rfl
  refine pure_ (i := 7) (N := some 16) (v := ?_) (a' := ?_) #[true, true, true, true, true, true, true, true, false, false, false, false, false, false, false, false, false, false, false, false, false, false, false, false, false] rfl rfl (by kernel_rfl) (fun _ _ _ h => h) (Or.inl ⟨by rfl, ?_⟩) ?_ ?_
  rotate_left
  · intro w'
    go_simp
    with_reducible rfl
  rotate_left
  · simp only [Act.put, List.setIfInBounds_toArray, List.set_cons_zero, List.set_cons_succ, i64_w, i32_w]
    rfl
  refine take_ (i := 8) (N := some 17) (v := ?_) (a' := ?_) #[true, true, true, true, true, true, true, true, true, false, false, false, false, false, false, false, false, false, false, false, false, false, false, false, false] rfl rfl (by kernel_rfl) (fun _ _ _ h => h) (Or.inl ⟨by rfl, ?_⟩) hHeld ?_ ?_
  rotate_left
  · rintro w' ⟨s0, s1, s2, s3, s4, s5, s6, s7, s8, s9, s10, s11, s12, s13⟩
    go_simp
    with_reducible rfl
  rotate_left
  · simp only [Act.put, List.setIfInBounds_toArray, List.set_cons_zero, List.set_cons_succ, i64_w, i32_w]
    rfl
  refine take_ (i := 9) (N := some 18) (v := ?_) (a' := ?_) #[true, true, true, true, true, true, true, true, true, true, false, false, false, false, false, false, false, false, false, false, false, false, false, false, false] rfl rfl (by kernel_rfl) (fun _ _ _ h => h) (Or.inl ⟨by rfl, ?_⟩) hHeld ?_ ?_
  rotate_left
  · rintro w' ⟨s0, s1, s2, s3, s4, s5, s6, s7, s8, s9, s10, s11, s12, s13⟩
    go_simp
    with_reducible rfl
  rotate_left
  · simp only [Act.put, List.setIfInBounds_toArray, List.set_cons_zero, List.set_cons_succ, i64_w, i32_w]
    rfl
  refine take_ (i := 11) (N := some 20) (v := ?_) (a' := ?_) #[true, true, true, true, true, true, true, true, true, true, false, true, false, false, false, false, false, false, false, false, false, false, false, false, false] rfl rfl (by kernel_rfl) (fun _ _ _ h => h) (Or.inl ⟨by rfl, ?_⟩) hHeld ?_ ?_
  rotate_left
  · rintro w' ⟨s0, s1, s2, s3, s4, s5, s6, s7, s8, s9, s10, s11, s12, s13⟩
    go_simp
    with_reducible rfl
  rotate_left
  · simp only [Act.put, List.setIfInBounds_toArray, List.set_cons_zero, List.set_cons_succ, i64_w, i32_w]
    rfl
  refine take_ (i := 12) (N := some 21) (v := ?_) (a' := ?_) #[true, true, true, true, true, true, true, true, true, true, false, true, true, false, false, false, false, false, false, false, false, false, false, false, false] rfl rfl (by kernel_rfl) (fun _ _ _ h => h) (Or.inl ⟨by rfl, ?_⟩) hHeld ?_ ?_
  rotate_left
  · rintro w' ⟨s0, s1, s2, s3, s4, s5, s6, s7, s8, s9, s10, s11, s12, s13⟩
    go_simp
    with_reducible rfl
  rotate_left
  · simp only [Act.put, List.setIfInBounds_toArray, List.set_cons_zero, List.set_cons_succ, i64_w, i32_w]
    rfl
  refine one_ (i := 10) (N := some 19) #[true, true, true, true, true, true, true, true, true, true, true, true, true, false, false, false, false, false, false, false, false, false, false, false, false] rfl rfl (by kernel_rfl) (by decide) (fun K hK => ?_)
  refine goes_ Try.func29 (by kernel_rfl) rfl #[.agg #[.slice A0' y.f0.length c0', .slice A1' y.f1.length c1', .slice A2' y.f2.length c2', .slice A3' y.f3.length c3', .slice A4' y.f4.length c4', .slice A5' y.f5.length c5', .slice A6' y.f6.length c6'], .agg #[.slice A0 x.f0.length c0, .slice A1 x.f1.length c1, .slice A2 x.f2.length c2, .slice A3 x.f3.length c3, .slice A4 x.f4.length c4, .slice A5 x.f5.length c5, .slice A6 x.f6.length c6]] (by rfl) rfl rfl (by simp only [List.map_toArray, List.map_cons, List.map_nil]; rfl) ?_
  have hcn := Equal_calls y x [.slice A0' y.f0.length c0', .slice A1' y.f1.length c1', .slice A2' y.f2.length c2', .slice A3' y.f3.length c3', .slice A4' y.f4.length c4', .slice A5' y.f5.length c5', .slice A6' y.f6.length c6'] [.slice A0 x.f0.length c0, .slice A1 x.f1.length c1, .slice A2 x.f2.length c2, .slice A3 x.f3.length c3, .slice A4 x.f4.length c4, .slice A5 x.f5.length c5, .slice A6 x.f6.length c6] U2 (k30.K_below HB.be HY.out) (k30.K_below HB.be HX.out)
  rw [eq30_comm y x] at hcn
  change Calls Try.prog 29 #[.agg #[.slice A0' y.f0.length c0', .slice A1' y.f1.length c1', .slice A2' y.f2.length c2', .slice A3' y.f3.length c3', .slice A4' y.f4.length c4', .slice A5' y.f5.length c5', .slice A6' y.f6.length c6'], .agg #[.slice A0 x.f0.length c0, .slice A1 x.f1.length c1, .slice A2 x.f2.length c2, .slice A3 x.f3.length c3, .slice A4 x.f4.length c4, .slice A5 x.f5.length c5, .slice A6 x.f6.length c6]] U2 _ at hcn
  with_reducible refine (hcn).mono ?_
  rintro e U3 ⟨rfl, hb⟩
  clear hcn
  replace HB := HB.step hb
  clear hb
  refine ⟨_, rfl, ?_⟩
  refine hK.out _ _ ⟨(blk_cell HB.b0 0).trans rfl, (blk_cell HB.b0 1).trans rfl, (blk_cell HB.b0 2).trans rfl, (blk_cell HB.b0 3).trans rfl, (blk_cell HB.b0 4).trans rfl, (blk_cell HB.b0 5).trans rfl, (blk_cell HB.b0 6).trans rfl, (blk_cell HB.b1 0).trans rfl, (blk_cell HB.b1 1).trans rfl, (blk_cell HB.b1 2).trans rfl, (blk_cell HB.b1 3).trans rfl, (blk_cell HB.b1 4).trans rfl, (blk_cell HB.b1 5).trans rfl, (blk_cell HB.b1 6).trans rfl⟩ (fun hHeld => ?_)
  clear hK K
  refine norm_ (a' := ?_) ?_ ?_
  rotate_left
  · show Act.put _ (some 19) _ = _
    simp only [Act.put, List.setIfInBounds_toArray, List.set_cons_zero, List.set_cons_succ, i64_w, i32_w]
    rfl
  refine one_ (i := 13) (N := some 22) #[true, true, true, true, true, true, true, true, true, true, true, true, true, true, false, false, false, false, false, false, false, false, false, false, false] rfl rfl (by kernel_rfl) (by decide) (fun K hK => ?_)
  refine goes_ Try.func29 (by kernel_rfl) rfl #[.agg #[.slice A0 x.f0.length c0, .slice A1 x.f1.length c1, .slice A2 x.f2.length c2, .slice A3 x.f3.length c3, .slice A4 x.f4.length c4, .slice A5 x.f5.length c5, .slice A6 x.f6.length c6], .agg #[.slice A0' y.f0.length c0', .slice A1' y.f1.length c1', .slice A2' y.f2.length c2', .slice A3' y.f3.length c3', .slice A4' y.f4.length c4', .slice A5' y.f5.length c5', .slice A6' y.f6.length c6']] (by rfl) rfl rfl (by simp only [List.map_toArray, List.map_cons, List.map_nil]; rfl) ?_
  have hcn := Equal_calls x y [.slice A0 x.f0.length c0, .slice A1 x.f1.length c1, .slice A2 x.f2.length c2, .slice A3 x.f3.length c3, .slice A4 x.f4.length c4, .slice A5 x.f5.length c5, .slice A6 x.f6.length c6] [.slice A0' y.f0.length c0', .slice A1' y.f1.length c1', .slice A2' y.f2.length c2', .slice A3' y.f3.length c3', .slice A4' y.f4.length c4', .slice A5' y.f5.length c5', .slice A6' y.f6.length c6'] U3 (k30.K_below HB.be HX.out) (k30.K_below HB.be HY.out)
  change Calls Try.prog 29 #[.agg #[.slice A0 x.f0.length c0, .slice A1 x.f1.length c1, .slice A2 x.f2.length c2, .slice A3 x.f3.length c3, .slice A4 x.f4.length c4, .slice A5 x.f5.length c5, .slice A6 x.f6.length c6], .agg #[.slice A0' y.f0.length c0', .slice A1' y.f1.length c1', .slice A2' y.f2.length c2', .slice A3' y.f3.length c3', .slice A4' y.f4.length c4', .slice A5' y.f5.length c5', .slice A6' y.f6.length c6']] U3 _ at hcn
  with_reducible refine (hcn).mono ?_
  rintro e U4 ⟨rfl, hb⟩
  clear hcn
  replace HB := HB.step hb
  clear hb
  refine ⟨_, rfl, ?_⟩
  refine hK.out _ _ ⟨(blk_cell HB.b0 0).trans rfl, (blk_cell HB.b0 1).trans rfl, (blk_cell HB.b0 2).trans rfl, (blk_cell HB.b0 3).trans rfl, (blk_cell HB.b0 4).trans rfl, (blk_cell HB.b0 5).trans rfl, (blk_cell HB.b0 6).trans rfl, (blk_cell HB.b1 0).trans rfl, (blk_cell HB.b1 1).trans rfl, (blk_cell HB.b1 2).trans rfl, (blk_cell HB.b1 3).trans rfl, (blk_cell HB.b1 4).trans rfl, (blk_cell HB.b1 5).trans rfl, (blk_cell HB.b1 6).trans rfl⟩ (fun hHeld => ?_)
  clear hK K
  refine norm_ (a' := ?_) ?_ ?_
  rotate_left
  · show Act.put _ (some 22) _ = _
    simp only [Act.put, List.setIfInBounds_toArray, List.set_cons_zero, List.set_cons_succ, i64_w, i32_w]
    rfl
  refine pure_ (i := 14) (N := some 23) (v := ?_) (a' := ?_) #[true, true, true, true, true, true, true, true, true, true, true, true, true, true, true, false, false, false, false, false, false, false, false, false, false] rfl rfl (by kernel_rfl) (fun _ _ _ h => h) (Or.inl ⟨by rfl, ?_⟩) ?_ ?_
  rotate_left
  · intro w'
    go_simp
    with_reducible rfl
  rotate_left
  · simp only [Act.put, List.setIfInBounds_toArray, List.set_cons_zero, List.set_cons_succ, i64_w, i32_w]
    rfl
  refine pure_ (i := 15) (N := some 24) (v := ?_) (a' := ?_) #[true, true, true, true, true, true, true, true, true, true, true, true, true, true, true, true, false, false, false, false, false, false, false, false, false] rfl rfl (by kernel_rfl) (fun _ _ _ h => h) (Or.inl ⟨by rfl, ?_⟩) ?_ ?_
  rotate_left
  · intro w'
    go_simp
    with_reducible rfl
  rotate_left
  · simp only [Act.put, List.setIfInBounds_toArray, List.set_cons_zero, List.set_cons_succ, i64_w, i32_w]
    rfl
  refine pure_ (i := 16) (N := some 25) (v := ?_) (a' := ?_) #[true, true, true, true, true, true, true, true, true, true, true, true, true, true, true, true, true, false, false, false, false, false, false, false, false] rfl rfl (by kernel_rfl) (fun _ _ _ h => h) (Or.inl ⟨by rfl, ?_⟩) ?_ ?_
  rotate_left
  · intro w'
    go_simp
    with_reducible rfl
  rotate_left
  · simp only [Act.put, List.setIfInBounds_toArray, List.set_cons_zero, List.set_cons_succ, i64_w, i32_w]
    rfl
  refine take_ (i := 17) (N := some 26) (v := ?_) (a' := ?_) #[true, true, true, true, true, true, true, true, true, true, true, true, true, true, true, true, true, true, false, false, false, false, false, false, false] rfl rfl (by kernel_rfl) (fun _ _ _ h => h) (Or.inl ⟨by rfl, ?_⟩) hHeld ?_ ?_
  rotate_left
  · rintro w' ⟨s0, s1, s2, s3, s4, s5, s6, s7, s8, s9, s10, s11, s12, s13⟩
    go_simp
    with_reducible rfl
  rotate_left
  · simp only [Act.put, List.setIfInBounds_toArray, List.set_cons_zero, List.set_cons_succ, i64_w, i32_w]
    rfl
  refine take_ (i := 18) (N := some 27) (v := ?_) (a' := ?_) #[true, true, true, true, true, true, true, true, true, true, true, true, true, true, true, true, true, true, true, false, false, false, false, false, false] rfl rfl (by kernel_rfl) (fun _ _ _ h => h) (Or.inl ⟨by rfl, ?_⟩) hHeld ?_ ?_
  rotate_left
  · rintro w' ⟨s0, s1, s2, s3, s4, s5, s6, s7, s8, s9, s10, s11, s12, s13⟩
    go_simp
    with_reducible rfl
  rotate_left
  · simp only [Act.put, List.setIfInBounds_toArray, List.set_cons_zero, List.set_cons_succ, i64_w, i32_w]
    rfl
  refine one_ (i := 19) (N := some 28) #[true, true, true, true, true, true, true, true, true, true, true, true, true, true, true, true, true, true, true, true, false, false, false, false, false] rfl rfl (by kernel_rfl) (by decide) (fun K hK => ?_)
  refine goes_ Try.func29 (by kernel_rfl) rfl #[.agg #[.slice A0 x.f0.length c0, .slice A1 x.f1.length c1, .slice A2 x.f2.length c2, .slice A3 x.f3.length c3, .slice A4 x.f4.length c4, .slice A5 x.f5.length c5, .slice A6 x.f6.length c6], .agg #[.slice A0 x.f0.length c0, .slice A1 x.f1.length c1, .slice A2 x.f2.length c2, .slice A3 x.f3.length c3, .slice A4 x.f4.length c4, .slice A5 x.f5.length c5, .slice A6 x.f6.length c6]] (by rfl) rfl rfl (by simp only [List.map_toArray, List.map_cons, List.map_nil]; rfl) ?_
  have hcn := Equal_calls x x [.slice A0 x.f0.length c0, .slice A1 x.f1.length c1, .slice A2 x.f2.length c2, .slice A3 x.f3.length c3, .slice A4 x.f4.length c4, .slice A5 x.f5.length c5, .slice A6 x.f6.length c6] [.slice A0 x.f0.length c0, .slice A1 x.f1.length c1, .slice A2 x.f2.length c2, .slice A3 x.f3.length c3, .slice A4 x.f4.length c4, .slice A5 x.f5.length c5, .slice A6 x.f6.length c6] U4 (k30.K_below HB.be HX.out) (k30.K_below HB.be HX.out)
  rw [eq30_refl] at hcn
  change Calls Try.prog 29 #[.agg #[.slice A0 x.f0.length c0, .slice A1 x.f1.length c1, .slice A2 x.f2.length c2, .slice A3 x.f3.length c3, .slice A4 x.f4.length c4, .slice A5 x.f5.length c5, .slice A6 x.f6.length c6], .agg #[.slice A0 x.f0.length c0, .slice A1 x.f1.length c1, .slice A2 x.f2.length c2, .slice A3 x.f3.length c3, .slice A4 x.f4.length c4, .slice A5 x.f5.length c5, .slice A6 x.f6.length c6]] U4 _ at hcn
  with_reducible refine (hcn).mono ?_
  rintro e U5 ⟨rfl, hb⟩
  clear hcn
  replace HB := HB.step hb
  clear hb
  refine ⟨_, rfl, ?_⟩
  refine hK.out _ _ ⟨(blk_cell HB.b0 0).trans rfl, (blk_cell HB.b0 1).trans rfl, (blk_cell HB.b0 2).trans rfl, (blk_cell HB.b0 3).trans rfl, (blk_cell HB.b0 4).trans rfl, (blk_cell HB.b0 5).trans rfl, (blk_cell HB.b0 6).trans rfl, (blk_cell HB.b1 0).trans rfl, (blk_cell HB.b1 1).trans rfl, (blk_cell HB.b1 2).trans rfl, (blk_cell HB.b1 3).trans rfl, (blk_cell HB.b1 4).trans rfl, (blk_cell HB.b1 5).trans rfl, (blk_cell HB.b1 6).trans rfl⟩ (fun hHeld => ?_)
  clear hK K
  refine norm_ (a' := ?_) ?_ ?_
  rotate_left
  · show Act.put _ (some 28) _ = _
    simp only [Act.put, List.setIfInBounds_toArray, List.set_cons_zero, List.set_cons_succ, i64_w, i32_w]
    rfl
  refine pure_ (i := 20) (N := some 29) (v := ?_) (a' := ?_) #[true, true, true, true, true, true, true, true, true, true, true, true, true, true, true, true, true, true, true, true, true, false, false, false, false] rfl rfl (by kernel_rfl) (fun _ _ _ h => h) (Or.inl ⟨by rfl, ?_⟩) ?_ ?_
  rotate_left
  · intro w'
    go_simp
    with_reducible rfl
  rotate_left
  · simp only [Act.put, List.setIfInBounds_toArray, List.set_cons_zero, List.set_cons_succ, i64_w, i32_w]
    rfl
  refine pure_ (i := 21) (N := some 30) (v := ?_) (a' := ?_) #[true, true, true, true, true, true, true, true, true, true, true, true, true, true, true, true, true, true, true, true, true, true, false, false, false] rfl rfl (by kernel_rfl) (fun _ _ _ h => h) (Or.inl ⟨by rfl, ?_⟩) ?_ ?_
  rotate_left
  · intro w'
    go_simp
    with_reducible rfl
  rotate_left
  · simp only [Act.put, List.setIfInBounds_toArray, List.set_cons_zero, List.set_cons_succ, i64_w, i32_w]
    rfl
  refine one_ (i := 22) (N := some 31) #[true, true, true, true, true, true, true, true, true, true, true, true, true, true, true, true, true, true, true, true, true, true, true, false, false] rfl rfl (by kernel_rfl) (by decide) (fun K hK => ?_)
  refine goes_ Try.func17 (by kernel_rfl) rfl #[] (by rfl) rfl rfl (by simp) ?_
  with_reducible refine (awake_calls U5).mono ?_
  rintro e U6 ⟨rfl, hb⟩
  replace HB := HB.step hb
  clear hb
  refine ⟨_, rfl, ?_⟩
  refine hK.out _ _ ⟨(blk_cell HB.b0 0).trans rfl, (blk_cell HB.b0 1).trans rfl, (blk_cell HB.b0 2).trans rfl, (blk_cell HB.b0 3).trans rfl, (blk_cell HB.b0 4).trans rfl, (blk_cell HB.b0 5).trans rfl, (blk_cell HB.b0 6).trans rfl, (blk_cell HB.b1 0).trans rfl, (blk_cell HB.b1 1).trans rfl, (blk_cell HB.b1 2).trans rfl, (blk_cell HB.b1 3).trans rfl, (blk_cell HB.b1 4).trans rfl, (blk_cell HB.b1 5).trans rfl, (blk_cell HB.b1 6).trans rfl⟩ (fun hHeld => ?_)
  clear hK K
  refine norm_ (a' := ?_) ?_ ?_
  rotate_left
  · show Act.put _ (some 31) _ = _
    simp only [Act.put, List.setIfInBounds_toArray, List.set_cons_zero, List.set_cons_succ, i64_w, i32_w]
    rfl
  refine pure_ (i := 23) (N := some 32) (v := ?_) (a' := ?_) #[true, true, true, true, true, true, true, true, true, true, true, true, true, true, true, true, true, true, true, true, true, true, true, true, false] rfl rfl (by kernel_rfl) (fun _ _ _ h => h) (Or.inl ⟨by rfl, ?_⟩) ?_ ?_
  rotate_left
  · intro w'
    go_simp
    with_reducible rfl
  rotate_left
  · simp only [Act.put, List.setIfInBounds_toArray, List.set_cons_zero, List.set_cons_succ, i64_w, i32_w]
    rfl
  refine pure_ (i := 24) (N := some 4) (v := ?_) (a' := ?_) #[true, true, true, true, true, true, true, true, true, true, true, true, true, true, true, true, true, true, true, true, true, true, true, true, true] rfl rfl (by kernel_rfl) (fun _ _ _ h => h) (Or.inl ⟨by rfl, ?_⟩) ?_ ?_
  rotate_left
  · intro w'
    go_simp
    with_reducible rfl
  rotate_left
  · simp only [Act.put, List.setIfInBounds_toArray, List.set_cons_zero, List.set_cons_succ, i64_w, i32_w]
    rfl
  refine done_ (by kernel_rfl) ?_
  go_wp2_with fail
  go_ret
  exact ⟨rfl, HB.be⟩
end Go.Proofs.Ytkdgholmfnidkaa
