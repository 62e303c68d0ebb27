/- Extract: what it returns. -/
import Derived.Test.YtkdgholmfnidkaaN
namespace Go.Proofs.Ytkdgholmfnidkaa
open Go.RowKit Go.Proofs.YtkdgholmfnidkaaW.PrintWords Go.Proofs.YtkdgholmfnidkaaW.PrintLast Go.Proofs.YtkdgholmfnidkaaW.PrintMore

set_option maxHeartbeats 16000000 in
set_option maxRecDepth 100000 in
theorem Extract_calls (x : S30) (cs : List Value) (k : Int) (w : World) (hx : k30.K w x cs) (hok : okC x) :
    Calls Try.prog 21 #[.agg cs.toArray, .int .i64 k] w fun e w' => ∃ cs' : List Value, e = .returned (.tuple #[.agg cs'.toArray, .int .i64 (extErr x k)]) ∧ k30.K w' (extOf x k) cs' ∧ Below w.heap.size w w' := by
  have hu30 := Try.underlying30
  have hu64 := Try.underlying64
  have hu39 := Try.underlying39
  have hu74 := Try.underlying74
  have hb0 : Below w.heap.size w ((w.alloc (.cells cs.toArray 30)).alloc (.cells #[.slice none 0 0, .slice none 0 0, .slice none 0 0, .slice none 0 0, .slice none 0 0, .slice none 0 0, .slice none 0 0] 30)) := below_alloc (below_alloc (Below.refl _ _) _) _
  have hc := valid_calls x cs _ (k30.K_below hb0 hx) hok
  obtain ⟨A0, c0, A1, c1, A2, c2, A3, c3, A4, c4, A5, c5, A6, c6, rfl, l0, g0, l1, g1, l2, g2, l3, g3, l4, g4, l5, g5, l6, g6⟩ := k30_open hx
  clear hx
  have hm2 := Kd.C_max g2
  have HX := (Bx.refl w #[.slice A0 x.f0.length c0, .slice A1 x.f1.length c1, .slice A2 x.f2.length c2, .slice A3 x.f3.length c3, .slice A4 x.f4.length c4, .slice A5 x.f5.length c5, .slice A6 x.f6.length c6] 30).alloc (.cells #[.slice none 0 0, .slice none 0 0, .slice none 0 0, .slice none 0 0, .slice none 0 0, .slice none 0 0, .slice none 0 0] 30)
  have hZ := blk_new (w.alloc (.cells #[.slice A0 x.f0.length c0, .slice A1 x.f1.length c1, .slice A2 x.f2.length c2, .slice A3 x.f3.length c3, .slice A4 x.f4.length c4, .slice A5 x.f5.length c5, .slice A6 x.f6.length c6] 30)) (.cells #[.slice none 0 0, .slice none 0 0, .slice none 0 0, .slice none 0 0, .slice none 0 0, .slice none 0 0, .slice none 0 0] 30)
  rw [World.size_alloc] at hZ
  cases hv : ((vErr x).2.2 == 0)
  · rw [hv] at hc
    have hv' : (vErr x).2.2 ≠ 0 := by simpa using hv
    have HE : Aside0 (extErr x k = 1) := ⟨by rw [extErr, if_pos hv']⟩
    have HO : Aside0 (extOf x k = z30) := ⟨by rw [extOf, if_neg (by rw [HE.out]; decide)]⟩
    clear hv hv'
    go_enter Try.func21, Try.ntmps21
    go_wp2_with (go_at_call 52; refine hc.mono ?_; rintro e w1 ⟨rfl, hb⟩; have z1 := blk_cell (blk_below hZ hb); have z2 := blk_frozen (blk_below hZ hb))
    have hz := put7_blk (blk_below hZ hb) (.slice none 0 0) (.slice none 0 0) (.slice none 0 0) (.slice none 0 0) (.slice none 0 0) (.slice none 0 0) (.slice none 0 0)
    have hw := put7_below (g := w.heap.size + 1) (below_step hb0 hb) (by omega) (.slice none 0 0) (.slice none 0 0) (.slice none 0 0) (.slice none 0 0) (.slice none 0 0) (.slice none 0 0) (.slice none 0 0)
    refine bodyPost_ret (results_ct rfl _ (put7 w1 (w.heap.size + 1) (.slice none 0 0) (.slice none 0 0) (.slice none 0 0) (.slice none 0 0) (.slice none 0 0) (.slice none 0 0) (.slice none 0 0)) (w.heap.size + 1) 30 #[.slice none 0 0, .slice none 0 0, .slice none 0 0, .slice none 0 0, .slice none 0 0, .slice none 0 0, .slice none 0 0] (0, 0) _ rfl hz Try.underlying30 rfl (by kernel_rfl)) rfl ?_
    refine ⟨_, ?_, by rw [HO.out]; exact k30_zero _, hw⟩
    rw [HE.out]; rfl
  · rw [hv] at hc
    have hv' : (vErr x).2.2 = 0 := by simpa using hv
    clear hv
    by_cases hk0 : k < 0
    · have HE : Aside0 (extErr x k = 8) := ⟨by rw [extErr, if_neg (fun h => h hv'), if_pos (.inl hk0)]⟩
      have HO : Aside0 (extOf x k = z30) := ⟨by rw [extOf, if_neg (by rw [HE.out]; decide)]⟩
      clear hv'
      go_enter Try.func21, Try.ntmps21
      go_wp2_with (go_at_call 52; refine hc.mono ?_; rintro e w1 ⟨rfl, hb⟩; have z1 := blk_cell (blk_below hZ hb); have z2 := blk_frozen (blk_below hZ hb); have b7 := (HX.step hb).at_)
      have hz := put7_blk (blk_below hZ hb) (.slice none 0 0) (.slice none 0 0) (.slice none 0 0) (.slice none 0 0) (.slice none 0 0) (.slice none 0 0) (.slice none 0 0)
      have hw := put7_below (g := w.heap.size + 1) (below_step hb0 hb) (by omega) (.slice none 0 0) (.slice none 0 0) (.slice none 0 0) (.slice none 0 0) (.slice none 0 0) (.slice none 0 0) (.slice none 0 0)
      refine bodyPost_ret (results_ct rfl _ (put7 w1 (w.heap.size + 1) (.slice none 0 0) (.slice none 0 0) (.slice none 0 0) (.slice none 0 0) (.slice none 0 0) (.slice none 0 0) (.slice none 0 0)) (w.heap.size + 1) 30 #[.slice none 0 0, .slice none 0 0, .slice none 0 0, .slice none 0 0, .slice none 0 0, .slice none 0 0, .slice none 0 0] (0, 0) _ rfl hz Try.underlying30 rfl (by kernel_rfl)) rfl ?_
      refine ⟨_, ?_, by rw [HO.out]; exact k30_zero _, hw⟩
      rw [HE.out]; rfl
    by_cases hkl : x.f2.length ≤ k
    · have HE : Aside0 (extErr x k = 8) := ⟨by rw [extErr, if_neg (fun h => h hv'), if_pos (.inr hkl)]⟩
      have HO : Aside0 (extOf x k = z30) := ⟨by rw [extOf, if_neg (by rw [HE.out]; decide)]⟩
      clear hv'
      go_enter Try.func21, Try.ntmps21
      go_wp2_with (go_at_call 52; refine hc.mono ?_; rintro e w1 ⟨rfl, hb⟩; have z1 := blk_cell (blk_below hZ hb); have z2 := blk_frozen (blk_below hZ hb); have b7 := (HX.step hb).at_)
      have hz := put7_blk (blk_below hZ hb) (.slice none 0 0) (.slice none 0 0) (.slice none 0 0) (.slice none 0 0) (.slice none 0 0) (.slice none 0 0) (.slice none 0 0)
      have hw := put7_below (g := w.heap.size + 1) (below_step hb0 hb) (by omega) (.slice none 0 0) (.slice none 0 0) (.slice none 0 0) (.slice none 0 0) (.slice none 0 0) (.slice none 0 0) (.slice none 0 0)
      refine bodyPost_ret (results_ct rfl _ (put7 w1 (w.heap.size + 1) (.slice none 0 0) (.slice none 0 0) (.slice none 0 0) (.slice none 0 0) (.slice none 0 0) (.slice none 0 0) (.slice none 0 0)) (w.heap.size + 1) 30 #[.slice none 0 0, .slice none 0 0, .slice none 0 0, .slice none 0 0, .slice none 0 0, .slice none 0 0, .slice none 0 0] (0, 0) _ rfl hz Try.underlying30 rfl (by kernel_rfl)) rfl ?_
      refine ⟨_, ?_, by rw [HO.out]; exact k30_zero _, hw⟩
      rw [HE.out]; rfl
    have HE : Aside0 (extErr x k = 0) := ⟨by rw [extErr, if_neg (fun h => h hv'), if_neg (by omega)]⟩
    have HO : Aside0 (extOf x k = cutX x (rd_T64 x.f2 k)) := ⟨by rw [extOf, if_pos HE.out]⟩
    have HV := Aside0.mk (vErr_zero hv')
    clear hv'
    obtain ⟨ad, t, At, ct, rfl, -, ht, q0, q1, q2, q3, lt, gt⟩ := el64 ⟨g2⟩ (bel_refl w) k.toNat (by omega)
    have htt : rd_T64 x.f2 k = t := by rw [rd_T64, List.getD_eq_getElem?_getD, ht.out]; rfl
    rw [htt] at HO
    have htb := texts_in HV.out.2.2.1 t (List.mem_of_getElem? ht.out)
    have hk1 : (0 : Int) ≤ k := by omega
    have hk2 : k < (x.f2.length : Int) := by omega
    go_enter Try.func21, Try.ntmps21
    go_wp2_with (go_at_call 52; refine hc.mono ?_; rintro e w1 ⟨rfl, hb⟩; have b7 := (HX.step hb).at_; have p0 := pw_cell_below (below_step hb0 hb) q0; have p1 := pw_cell_below (below_step hb0 hb) q1; have p2 := pw_cell_below (below_step hb0 hb) q2; have p3 := pw_cell_below (below_step hb0 hb) q3)
    have HX1 : Xs w #[.slice A0 x.f0.length c0, .slice A1 x.f1.length c1, .slice (some ad) x.f2.length c2, .slice A3 x.f3.length c3, .slice A4 x.f4.length c4, .slice A5 x.f5.length c5, .slice A6 x.f6.length c6] w1.heap.size #[.string t.f0, .int .i64 t.f1, .int .i64 t.f2, .slice At t.f3.length ct] (w1.alloc (.cells #[.string t.f0, .int .i64 t.f1, .int .i64 t.f2, .slice At t.f3.length ct] 64)) :=
      ⟨below_alloc (below_step hb0 hb) _, blk_alloc (HX.step hb).blk _, blk_alloc (blk_below hZ hb) _, blk_new _ _, Nat.le_trans hb0.size hb.size⟩
    have hgs : w.heap.size + 1 < w1.heap.size := blk_lt (blk_below hZ hb)
    generalize w1.alloc (.cells #[.string t.f0, .int .i64 t.f1, .int .i64 t.f2, .slice At t.f3.length ct] 64) = W at HX1 ⊢
    generalize w1.heap.size = gT at HX1 hgs ⊢
    clear b7 p0 p1 p2 p3 hb w1 hc HX hZ hb0 q0 q1 q2 q3
    have x0 := blk_cell HX1.c 0
    have t0 := (blk_cell HX1.t 0).trans rfl
    have t1 := (blk_cell HX1.t 1).trans rfl
    have t2 := (blk_cell HX1.t 2).trans rfl
    have t3 := (blk_cell HX1.t 3).trans rfl
    have X0 := HX1.drew
    have hW0 : W.heap.size ≤ W.drew.heap.size := Nat.le_refl _
    generalize W.drew = W0 at X0 hW0 ⊢
    have hgW : gT < W.heap.size := blk_lt HX1.t
    have hpl := pairs_le htb.2.2.2
    have hal : x.f0.length ≤ 8 := attrs_le HV.out.1
    have hnT := toks_le HV.out.2.1
    have nW1 : Aside0 (Go.RowKit.wrap64 (-t.f1) = -t.f1) := ⟨by rw [← i64_w]; exact IntWalk.i64_in _ (by omega)⟩
    have n2 : Aside0 (IntKind.i64.wrap (t.f1 + -t.f1) = t.f1 + -t.f1) := ⟨IntWalk.i64_in _ (by omega)⟩
    have n3 : Aside0 (IntKind.i64.wrap (t.f2 + -t.f1) = t.f2 + -t.f1) := ⟨IntWalk.i64_in _ (by omega)⟩
    have X := HX1.drew
    have hW0 : W.heap.size ≤ W.drew.heap.size := Nat.le_refl _
    have hStart : W.drew.cell? ⟨w.heap.size, 0, none⟩ = some (.slice A0 x.f0.length c0) ∧ W.drew.cell? ⟨gT, 0, none⟩ = some (.string t.f0) ∧ W.drew.cell? ⟨gT, 1, none⟩ = some (.int .i64 t.f1) ∧ W.drew.cell? ⟨gT, 2, none⟩ = some (.int .i64 t.f2) ∧ W.drew.cell? ⟨gT, 3, none⟩ = some (.slice At t.f3.length ct) := ⟨(blk_cell X.c 0).trans rfl, (blk_cell X.t 0).trans rfl, (blk_cell X.t 1).trans rfl, (blk_cell X.t 2).trans rfl, (blk_cell X.t 3).trans rfl⟩
    refine start_ (n := 12) (S := fun w' => w'.cell? ⟨w.heap.size, 0, none⟩ = some (.slice A0 x.f0.length c0) ∧ w'.cell? ⟨gT, 0, none⟩ = some (.string t.f0) ∧ w'.cell? ⟨gT, 1, none⟩ = some (.int .i64 t.f1) ∧ w'.cell? ⟨gT, 2, none⟩ = some (.int .i64 t.f2) ∧ w'.cell? ⟨gT, 3, none⟩ = some (.slice At t.f3.length ct)) (ds := []) #[false, false, false, false, false, false, false, false, false, false, false, false] (by kernel_rfl) rfl rfl ⟨hStart.1, hStart.2.1, hStart.2.2.1, hStart.2.2.2.1, hStart.2.2.2.2⟩ (fun hHeld => ?_)
    generalize W.drew = W0 at X hW0 hHeld hStart ⊢
    refine pure_ (i := 0) (N := some 36) (v := ?_) (a' := ?_) #[true, false, false, false, false, false, false, false, false, false, false, false] rfl rfl (by kernel_rfl) (fun _ _ _ h => h) (Or.inl ⟨by rfl, ?_⟩) ?_ ?_
    rotate_left
    · intro w'
      go_simp
      with_reducible rfl
    rotate_left
    · simp only [Act.put, List.setIfInBounds_toArray, List.set_cons_zero, List.set_cons_succ]
      rfl
    refine pure_ (i := 4) (N := some 40) (v := ?_) (a' := ?_) #[true, false, false, false, true, false, false, false, false, false, false, false] rfl rfl (by kernel_rfl) (fun _ _ _ h => h) (Or.inl ⟨by rfl, ?_⟩) ?_ ?_
    rotate_left
    · intro w'
      go_simp
      with_reducible rfl
    rotate_left
    · simp only [Act.put, List.setIfInBounds_toArray, List.set_cons_zero, List.set_cons_succ]
      rfl
    refine take_ (i := 1) (N := some 37) (v := ?_) (a' := ?_) #[true, true, false, false, true, false, false, false, false, false, false, false] rfl rfl (by kernel_rfl) (fun _ _ _ h => h) (Or.inl ⟨by rfl, ?_⟩) hHeld ?_ ?_
    rotate_left
    · rintro w' ⟨s0, s1, s2, s3, s4⟩
      go_simp
      with_reducible rfl
    rotate_left
    · simp only [Act.put, List.setIfInBounds_toArray, List.set_cons_zero, List.set_cons_succ]
      rfl
    refine take_ (i := 3) (N := some 39) (v := ?_) (a' := ?_) #[true, true, false, true, true, false, false, false, false, false, false, false] rfl rfl (by kernel_rfl) (fun _ _ _ h => h) (Or.inl ⟨by rfl, ?_⟩) hHeld ?_ ?_
    rotate_left
    · rintro w' ⟨s0, s1, s2, s3, s4⟩
      go_simp
      with_reducible rfl
    rotate_left
    · simp only [Act.put, List.setIfInBounds_toArray, List.set_cons_zero, List.set_cons_succ]
      rfl
    refine take_ (i := 5) (N := some 41) (v := ?_) (a' := ?_) #[true, true, false, true, true, true, false, false, false, false, false, false] rfl rfl (by kernel_rfl) (fun _ _ _ h => h) (Or.inl ⟨by rfl, ?_⟩) hHeld ?_ ?_
    rotate_left
    · rintro w' ⟨s0, s1, s2, s3, s4⟩
      go_simp
      with_reducible rfl
    rotate_left
    · simp only [Act.put, List.setIfInBounds_toArray, List.set_cons_zero, List.set_cons_succ]
      rfl
    refine pure_ (i := 6) (N := some 42) (v := ?_) (a' := ?_) #[true, true, false, true, true, true, true, false, false, false, false, false] rfl rfl (by kernel_rfl) (fun _ _ _ h => h) (Or.inl ⟨by rfl, ?_⟩) ?_ ?_
    rotate_left
    · intro w'
      go_simp
      with_reducible rfl
    rotate_left
    · simp only [Act.put, List.setIfInBounds_toArray, List.set_cons_zero, List.set_cons_succ, i64_w, nW1.out]
      rfl
    refine join_ (σ := (Option Addr × Nat) × (Option Addr × Nat) × Nat × Nat) 1 #[true, true, true, true, true, true, true, true, true, true, true, false] (fun s => [(38, .slice s.1.1 x.f0.length s.1.2), (43, .agg #[.string t.f0, .int .i64 (t.f1 + -t.f1), .int .i64 (t.f2 + -t.f1), .slice s.2.1.1 t.f3.length s.2.1.2]), (44, .slice (some ⟨s.2.2.1, 0, none⟩) 1 1), (45, .agg #[.slice s.1.1 x.f0.length s.1.2, .slice none 0 0, .slice (some ⟨s.2.2.1, 0, none⟩) 1 1, .slice none 0 0, .slice none 0 0, .slice none 0 0, .slice none 0 0]), (7, .pointer (some ⟨s.2.2.2, 0, none⟩))]) (fun s w' => Xs w #[.slice A0 x.f0.length c0, .slice A1 x.f1.length c1, .slice (some ad) x.f2.length c2, .slice A3 x.f3.length c3, .slice A4 x.f4.length c4, .slice A5 x.f5.length c5, .slice A6 x.f6.length c6] gT #[.string t.f0, .int .i64 t.f1, .int .i64 t.f2, .slice At t.f3.length ct] w' ∧ gT < s.2.2.2 ∧ W0.heap.size ≤ s.2.2.2 ∧ w'.heap[s.2.2.2]? = some (.cells #[.slice none 0 0, .slice none 0 0, .slice none 0 0, .slice none 0 0, .slice none 0 0, .slice none 0 0, .slice none 0 0] 30 (0, 0)) ∧ k62.R 62 w' W0.heap.size (fun k => k ≠ s.2.2.2) (.slice s.1.1 x.f0.length s.1.2) x.f0 ∧ k64.R 64 w' W0.heap.size (fun k => k ≠ s.2.2.2) (.slice (some ⟨s.2.2.1, 0, none⟩) 1 1) [shiftT t (-t.f1)]) ?_ ?_
    rotate_left
    · intro hCont
      refine two_ (i := 2) (j := 10) (Ni := some 38) (Nj := some 7) #[true, true, true, true, true, true, true, false, false, false, false, false] #[true, true, false, true, true, true, true, false, false, false, true, false] rfl rfl rfl rfl (by kernel_rfl) (by decide) (by decide) (fun K hK => ?_) (fun K hK => ?_)
      · skip
        refine Kd.R_append_rows_step k62 (Rr := k62.K W0) (w0 := W0) W0.heap.size rfl (.const (.slice none 0 0)) (.tmp 37) 22 62 _ 24 rfl Try.underlying22 info62 rfl (by decide) (by decide) (.slice none 0 0) [] x.f0 A0 x.f0.length c0 (fun _ => True) (fun _ => True) rfl rfl (Kd.R_nil _ _ _ _ _) (Kd.C_below g0 X.be) (fun x cs hx => by obtain rfl := k62_open hx; exact k62_mkM _ _ _ _) (fun k _ => ⟨trivial, by simp [Value.ownBlock]⟩) (fun _ _ => trivial) (Below.refl _ _) (Nat.le_refl _) (by simp; omega) ?_
        intro v2 u2 hR2 _ hg2 _
        rw [List.nil_append] at hR2
        obtain ⟨A2, cc2, rfl⟩ := Kd.R_slice hR2
        have hb := grown_below hg2
        have X := X.step hb
        have sz2 := hb.size
        have r2 := Kd.R_mono (Kd.R_bound hR2) (ok' := fun k => W0.heap.size ≤ k ∧ k < u2.heap.size) (fun k hk => ⟨hk.2.1, hk.2.2.1⟩)
        clear hR2 hg2 hb
        refine hK.out _ _ ⟨(blk_cell X.c 0).trans rfl, (blk_cell X.t 0).trans rfl, (blk_cell X.t 1).trans rfl, (blk_cell X.t 2).trans rfl, (blk_cell X.t 3).trans rfl⟩ (fun hHeld => ?_)
        clear hK K
        refine norm_ (a' := ?_) ?_ ?_
        rotate_left
        · show Act.put _ (some 38) _ = _
          simp only [Act.put, List.setIfInBounds_toArray, List.set_cons_zero, List.set_cons_succ]
          rfl
        refine two_ (i := 7) (j := 10) (Ni := some 43) (Nj := some 7) #[true, true, true, true, true, true, true, true, false, false, false, false] #[true, true, true, true, true, true, true, false, false, false, true, false] rfl rfl rfl rfl (by kernel_rfl) (by decide) (by decide) (fun K hK => ?_) (fun K hK => ?_)
        · skip
          refine goes_ Try.func53 (by kernel_rfl) rfl #[.agg #[.string t.f0, .int .i64 t.f1, .int .i64 t.f2, .slice At t.f3.length ct], .int .i64 (-t.f1)] (by rfl) rfl rfl (by simp only [List.map_toArray, List.map_cons, List.map_nil]; rfl) ?_
          with_reducible refine (copyText_calls At ct t (-t.f1) u2 (Kd.C_below gt.out X.be) (by omega) n2.out n3.out).mono ?_
          rintro e u7 ⟨v7, rfl, hR7, hb⟩
          obtain ⟨A7, cc7, rfl⟩ := Kd.R_slice hR7
          have X := X.step hb
          have sz7 := hb.size
          have r2 := Kd.R_below r2 hb
          have r7 := Kd.R_mono (Kd.R_bound hR7) (ok' := fun k => u2.heap.size ≤ k ∧ k < u7.heap.size) (fun k hk => ⟨hk.2.1, hk.2.2.1⟩)
          have r7 := Kd.R_lower r7 (base' := W0.heap.size) (by omega)
          clear hR7 hb
          refine ⟨_, rfl, ?_⟩
          refine hK.out _ _ ⟨(blk_cell X.c 0).trans rfl, (blk_cell X.t 0).trans rfl, (blk_cell X.t 1).trans rfl, (blk_cell X.t 2).trans rfl, (blk_cell X.t 3).trans rfl⟩ (fun hHeld => ?_)
          clear hK K
          refine norm_ (a' := ?_) ?_ ?_
          rotate_left
          · show Act.put _ (some 43) _ = _
            simp only [Act.put, List.setIfInBounds_toArray, List.set_cons_zero, List.set_cons_succ]
            rfl
          refine two_ (i := 8) (j := 10) (Ni := some 44) (Nj := some 7) #[true, true, true, true, true, true, true, true, true, false, false, false] #[true, true, true, true, true, true, true, true, false, false, true, false] rfl rfl rfl rfl (by kernel_rfl) (by decide) (by decide) (fun K hK => ?_) (fun K hK => ?_)
          · skip
            refine value_ (w1 := ?_) (v := ?_) (by rfl) rfl ?_ ?_
            rotate_left 2
            · go_simp
              constructor
              · rfl
              · rfl
            change K _ (u7.alloc (.cells #[.string t.f0, .int .i64 (t.f1 + -t.f1), .int .i64 (t.f2 + -t.f1), .slice A7 t.f3.length cc7] 64))
            have r8 := R_one k64 64 u7 W0.heap.size (shiftT t (-t.f1)) [.string t.f0, .int .i64 (t.f1 + -t.f1), .int .i64 (t.f2 + -t.f1), .slice A7 t.f3.length cc7] (k64_mkM _ _ _ (shiftT t (-t.f1)) r7) (by omega)
            have r8 := Kd.R_mono r8 (ok' := fun k => (k < u7.heap.size ∧ (u2.heap.size ≤ k)) ∨ k = u7.heap.size) (fun k hk => hk.elim (fun h => .inl ⟨h.1.2, h.1.1⟩) .inr)
            have hb := below_alloc (Below.refl u7.heap.size u7) (.cells #[.string t.f0, .int .i64 (t.f1 + -t.f1), .int .i64 (t.f2 + -t.f1), .slice A7 t.f3.length cc7] 64)
            have sz := Nat.le_of_eq (World.size_alloc u7 (.cells #[.string t.f0, .int .i64 (t.f1 + -t.f1), .int .i64 (t.f2 + -t.f1), .slice A7 t.f3.length cc7] 64)).symm
            generalize u7.alloc (.cells #[.string t.f0, .int .i64 (t.f1 + -t.f1), .int .i64 (t.f2 + -t.f1), .slice A7 t.f3.length cc7] 64) = u8 at hb sz r8 ⊢
            have X := X.step hb
            have sz8 := hb.size
            have r2 := Kd.R_below r2 hb
            have r7 := Kd.R_below r7 hb
            clear hb
            refine hK.out _ _ ⟨(blk_cell X.c 0).trans rfl, (blk_cell X.t 0).trans rfl, (blk_cell X.t 1).trans rfl, (blk_cell X.t 2).trans rfl, (blk_cell X.t 3).trans rfl⟩ (fun hHeld => ?_)
            clear hK K
            refine norm_ (a' := ?_) ?_ ?_
            rotate_left
            · show Act.put _ (some 44) _ = _
              simp only [Act.put, List.setIfInBounds_toArray, List.set_cons_zero, List.set_cons_succ]
              rfl
            refine pure_ (i := 9) (N := some 45) (v := ?_) (a' := ?_) #[true, true, true, true, true, true, true, true, true, true, false, false] rfl rfl (by kernel_rfl) (fun _ _ _ h => h) (Or.inl ⟨by rfl, ?_⟩) ?_ ?_
            rotate_left
            · intro w'
              go_simp
              with_reducible rfl
            rotate_left
            · simp only [Act.put, List.setIfInBounds_toArray, List.set_cons_zero, List.set_cons_succ]
              rfl
            refine one_ (i := 10) (N := some 7) #[true, true, true, true, true, true, true, true, true, true, true, false] rfl rfl (by kernel_rfl) (by decide) (fun K hK => ?_)
            refine value_ (w1 := ?_) (v := ?_) (by rfl) rfl ?_ ?_
            rotate_left 2
            · go_simp
              constructor
              · rfl
              · rfl
            change K _ (u8.alloc (.cells #[.slice none 0 0, .slice none 0 0, .slice none 0 0, .slice none 0 0, .slice none 0 0, .slice none 0 0, .slice none 0 0] 30))
            have hb := below_alloc (Below.refl u8.heap.size u8) (.cells #[.slice none 0 0, .slice none 0 0, .slice none 0 0, .slice none 0 0, .slice none 0 0, .slice none 0 0, .slice none 0 0] 30)
            have sz := Nat.le_of_eq (World.size_alloc u8 (.cells #[.slice none 0 0, .slice none 0 0, .slice none 0 0, .slice none 0 0, .slice none 0 0, .slice none 0 0, .slice none 0 0] 30)).symm
            have dz := blk_new u8 (.cells #[.slice none 0 0, .slice none 0 0, .slice none 0 0, .slice none 0 0, .slice none 0 0, .slice none 0 0, .slice none 0 0] 30)
            generalize u8.alloc (.cells #[.slice none 0 0, .slice none 0 0, .slice none 0 0, .slice none 0 0, .slice none 0 0, .slice none 0 0, .slice none 0 0] 30) = u10 at hb sz dz ⊢
            have X := X.step hb
            have sz10 := hb.size
            have r2 := Kd.R_below r2 hb
            have r8 := Kd.R_below r8 hb
            clear hb
            refine hK.out _ _ ⟨(blk_cell X.c 0).trans rfl, (blk_cell X.t 0).trans rfl, (blk_cell X.t 1).trans rfl, (blk_cell X.t 2).trans rfl, (blk_cell X.t 3).trans rfl⟩ (fun hHeld => ?_)
            clear hK K
            refine norm_ (a' := ?_) ?_ ?_
            rotate_left
            · show Act.put _ (some 7) _ = _
              simp only [Act.put, List.setIfInBounds_toArray, List.set_cons_zero, List.set_cons_succ]
              rfl
            exact norm_ (by simp only [putAll, Act.put, List.setIfInBounds_toArray, List.set_cons_zero, List.set_cons_succ]) (hCont ((A2, cc2), (A7, cc7), u7.heap.size, u8.heap.size) _ ⟨X, by dsimp only; omega, by dsimp only; omega, dz, Kd.R_mono (Kd.R_lower r2 (by omega)) (fun k hk => by dsimp only; omega), Kd.R_mono r8 (fun k hk => by dsimp only; omega)⟩)
          · skip
            refine value_ (w1 := ?_) (v := ?_) (by rfl) rfl ?_ ?_
            rotate_left 2
            · go_simp
              constructor
              · rfl
              · rfl
            change K _ (u7.alloc (.cells #[.slice none 0 0, .slice none 0 0, .slice none 0 0, .slice none 0 0, .slice none 0 0, .slice none 0 0, .slice none 0 0] 30))
            have hb := below_alloc (Below.refl u7.heap.size u7) (.cells #[.slice none 0 0, .slice none 0 0, .slice none 0 0, .slice none 0 0, .slice none 0 0, .slice none 0 0, .slice none 0 0] 30)
            have sz := Nat.le_of_eq (World.size_alloc u7 (.cells #[.slice none 0 0, .slice none 0 0, .slice none 0 0, .slice none 0 0, .slice none 0 0, .slice none 0 0, .slice none 0 0] 30)).symm
            have dz := blk_new u7 (.cells #[.slice none 0 0, .slice none 0 0, .slice none 0 0, .slice none 0 0, .slice none 0 0, .slice none 0 0, .slice none 0 0] 30)
            generalize u7.alloc (.cells #[.slice none 0 0, .slice none 0 0, .slice none 0 0, .slice none 0 0, .slice none 0 0, .slice none 0 0, .slice none 0 0] 30) = u10 at hb sz dz ⊢
            have X := X.step hb
            have sz10 := hb.size
            have r2 := Kd.R_below r2 hb
            have r7 := Kd.R_below r7 hb
            clear hb
            refine hK.out _ _ ⟨(blk_cell X.c 0).trans rfl, (blk_cell X.t 0).trans rfl, (blk_cell X.t 1).trans rfl, (blk_cell X.t 2).trans rfl, (blk_cell X.t 3).trans rfl⟩ (fun hHeld => ?_)
            clear hK K
            refine norm_ (a' := ?_) ?_ ?_
            rotate_left
            · show Act.put _ (some 7) _ = _
              simp only [Act.put, List.setIfInBounds_toArray, List.set_cons_zero, List.set_cons_succ]
              rfl
            refine one_ (i := 8) (N := some 44) #[true, true, true, true, true, true, true, true, true, false, true, false] rfl rfl (by kernel_rfl) (by decide) (fun K hK => ?_)
            refine value_ (w1 := ?_) (v := ?_) (by rfl) rfl ?_ ?_
            rotate_left 2
            · go_simp
              constructor
              · rfl
              · rfl
            change K _ (u10.alloc (.cells #[.string t.f0, .int .i64 (t.f1 + -t.f1), .int .i64 (t.f2 + -t.f1), .slice A7 t.f3.length cc7] 64))
            have r8 := R_one k64 64 u10 W0.heap.size (shiftT t (-t.f1)) [.string t.f0, .int .i64 (t.f1 + -t.f1), .int .i64 (t.f2 + -t.f1), .slice A7 t.f3.length cc7] (k64_mkM _ _ _ (shiftT t (-t.f1)) r7) (by omega)
            have r8 := Kd.R_mono r8 (ok' := fun k => (k < u7.heap.size ∧ (u2.heap.size ≤ k)) ∨ k = u10.heap.size) (fun k hk => hk.elim (fun h => .inl ⟨h.1.2, h.1.1⟩) .inr)
            have hb := below_alloc (Below.refl u10.heap.size u10) (.cells #[.string t.f0, .int .i64 (t.f1 + -t.f1), .int .i64 (t.f2 + -t.f1), .slice A7 t.f3.length cc7] 64)
            have sz := Nat.le_of_eq (World.size_alloc u10 (.cells #[.string t.f0, .int .i64 (t.f1 + -t.f1), .int .i64 (t.f2 + -t.f1), .slice A7 t.f3.length cc7] 64)).symm
            generalize u10.alloc (.cells #[.string t.f0, .int .i64 (t.f1 + -t.f1), .int .i64 (t.f2 + -t.f1), .slice A7 t.f3.length cc7] 64) = u8 at hb sz r8 ⊢
            have X := X.step hb
            have sz8 := hb.size
            have r2 := Kd.R_below r2 hb
            have r7 := Kd.R_below r7 hb
            have dz := blk_below dz hb
            clear hb
            refine hK.out _ _ ⟨(blk_cell X.c 0).trans rfl, (blk_cell X.t 0).trans rfl, (blk_cell X.t 1).trans rfl, (blk_cell X.t 2).trans rfl, (blk_cell X.t 3).trans rfl⟩ (fun hHeld => ?_)
            clear hK K
            refine norm_ (a' := ?_) ?_ ?_
            rotate_left
            · show Act.put _ (some 44) _ = _
              simp only [Act.put, List.setIfInBounds_toArray, List.set_cons_zero, List.set_cons_succ]
              rfl
            refine pure_ (i := 9) (N := some 45) (v := ?_) (a' := ?_) #[true, true, true, true, true, true, true, true, true, true, true, false] rfl rfl (by kernel_rfl) (fun _ _ _ h => h) (Or.inl ⟨by rfl, ?_⟩) ?_ ?_
            rotate_left
            · intro w'
              go_simp
              with_reducible rfl
            rotate_left
            · simp only [Act.put, List.setIfInBounds_toArray, List.set_cons_zero, List.set_cons_succ]
              rfl
            exact norm_ (by simp only [putAll, Act.put, List.setIfInBounds_toArray, List.set_cons_zero, List.set_cons_succ]) (hCont ((A2, cc2), (A7, cc7), u10.heap.size, u7.heap.size) _ ⟨X, by dsimp only; omega, by dsimp only; omega, dz, Kd.R_mono (Kd.R_lower r2 (by omega)) (fun k hk => by dsimp only; omega), Kd.R_mono r8 (fun k hk => by dsimp only; omega)⟩)
        · skip
          refine value_ (w1 := ?_) (v := ?_) (by rfl) rfl ?_ ?_
          rotate_left 2
          · go_simp
            constructor
            · rfl
            · rfl
          change K _ (u2.alloc (.cells #[.slice none 0 0, .slice none 0 0, .slice none 0 0, .slice none 0 0, .slice none 0 0, .slice none 0 0, .slice none 0 0] 30))
          have hb := below_alloc (Below.refl u2.heap.size u2) (.cells #[.slice none 0 0, .slice none 0 0, .slice none 0 0, .slice none 0 0, .slice none 0 0, .slice none 0 0, .slice none 0 0] 30)
          have sz := Nat.le_of_eq (World.size_alloc u2 (.cells #[.slice none 0 0, .slice none 0 0, .slice none 0 0, .slice none 0 0, .slice none 0 0, .slice none 0 0, .slice none 0 0] 30)).symm
          have dz := blk_new u2 (.cells #[.slice none 0 0, .slice none 0 0, .slice none 0 0, .slice none 0 0, .slice none 0 0, .slice none 0 0, .slice none 0 0] 30)
          generalize u2.alloc (.cells #[.slice none 0 0, .slice none 0 0, .slice none 0 0, .slice none 0 0, .slice none 0 0, .slice none 0 0, .slice none 0 0] 30) = u10 at hb sz dz ⊢
          have X := X.step hb
          have sz10 := hb.size
          have r2 := Kd.R_below r2 hb
          clear hb
          refine hK.out _ _ ⟨(blk_cell X.c 0).trans rfl, (blk_cell X.t 0).trans rfl, (blk_cell X.t 1).trans rfl, (blk_cell X.t 2).trans rfl, (blk_cell X.t 3).trans rfl⟩ (fun hHeld => ?_)
          clear hK K
          refine norm_ (a' := ?_) ?_ ?_
          rotate_left
          · show Act.put _ (some 7) _ = _
            simp only [Act.put, List.setIfInBounds_toArray, List.set_cons_zero, List.set_cons_succ]
            rfl
          refine one_ (i := 7) (N := some 43) #[true, true, true, true, true, true, true, true, false, false, true, false] rfl rfl (by kernel_rfl) (by decide) (fun K hK => ?_)
          refine goes_ Try.func53 (by kernel_rfl) rfl #[.agg #[.string t.f0, .int .i64 t.f1, .int .i64 t.f2, .slice At t.f3.length ct], .int .i64 (-t.f1)] (by rfl) rfl rfl (by simp only [List.map_toArray, List.map_cons, List.map_nil]; rfl) ?_
          with_reducible refine (copyText_calls At ct t (-t.f1) u10 (Kd.C_below gt.out X.be) (by omega) n2.out n3.out).mono ?_
          rintro e u7 ⟨v7, rfl, hR7, hb⟩
          obtain ⟨A7, cc7, rfl⟩ := Kd.R_slice hR7
          have X := X.step hb
          have sz7 := hb.size
          have r2 := Kd.R_below r2 hb
          have dz := blk_below dz hb
          have r7 := Kd.R_mono (Kd.R_bound hR7) (ok' := fun k => u10.heap.size ≤ k ∧ k < u7.heap.size) (fun k hk => ⟨hk.2.1, hk.2.2.1⟩)
          have r7 := Kd.R_lower r7 (base' := W0.heap.size) (by omega)
          clear hR7 hb
          refine ⟨_, rfl, ?_⟩
          refine hK.out _ _ ⟨(blk_cell X.c 0).trans rfl, (blk_cell X.t 0).trans rfl, (blk_cell X.t 1).trans rfl, (blk_cell X.t 2).trans rfl, (blk_cell X.t 3).trans rfl⟩ (fun hHeld => ?_)
          clear hK K
          refine norm_ (a' := ?_) ?_ ?_
          rotate_left
          · show Act.put _ (some 43) _ = _
            simp only [Act.put, List.setIfInBounds_toArray, List.set_cons_zero, List.set_cons_succ]
            rfl
          refine one_ (i := 8) (N := some 44) #[true, true, true, true, true, true, true, true, true, false, true, false] rfl rfl (by kernel_rfl) (by decide) (fun K hK => ?_)
          refine value_ (w1 := ?_) (v := ?_) (by rfl) rfl ?_ ?_
          rotate_left 2
          · go_simp
            constructor
            · rfl
            · rfl
          change K _ (u7.alloc (.cells #[.string t.f0, .int .i64 (t.f1 + -t.f1), .int .i64 (t.f2 + -t.f1), .slice A7 t.f3.length cc7] 64))
          have r8 := R_one k64 64 u7 W0.heap.size (shiftT t (-t.f1)) [.string t.f0, .int .i64 (t.f1 + -t.f1), .int .i64 (t.f2 + -t.f1), .slice A7 t.f3.length cc7] (k64_mkM _ _ _ (shiftT t (-t.f1)) r7) (by omega)
          have r8 := Kd.R_mono r8 (ok' := fun k => (k < u7.heap.size ∧ (u10.heap.size ≤ k)) ∨ k = u7.heap.size) (fun k hk => hk.elim (fun h => .inl ⟨h.1.2, h.1.1⟩) .inr)
          have hb := below_alloc (Below.refl u7.heap.size u7) (.cells #[.string t.f0, .int .i64 (t.f1 + -t.f1), .int .i64 (t.f2 + -t.f1), .slice A7 t.f3.length cc7] 64)
          have sz := Nat.le_of_eq (World.size_alloc u7 (.cells #[.string t.f0, .int .i64 (t.f1 + -t.f1), .int .i64 (t.f2 + -t.f1), .slice A7 t.f3.length cc7] 64)).symm
          generalize u7.alloc (.cells #[.string t.f0, .int .i64 (t.f1 + -t.f1), .int .i64 (t.f2 + -t.f1), .slice A7 t.f3.length cc7] 64) = u8 at hb sz r8 ⊢
          have X := X.step hb
          have sz8 := hb.size
          have r2 := Kd.R_below r2 hb
          have r7 := Kd.R_below r7 hb
          have dz := blk_below dz hb
          clear hb
          refine hK.out _ _ ⟨(blk_cell X.c 0).trans rfl, (blk_cell X.t 0).trans rfl, (blk_cell X.t 1).trans rfl, (blk_cell X.t 2).trans rfl, (blk_cell X.t 3).trans rfl⟩ (fun hHeld => ?_)
          clear hK K
          refine norm_ (a' := ?_) ?_ ?_
          rotate_left
          · show Act.put _ (some 44) _ = _
            simp only [Act.put, List.setIfInBounds_toArray, List.set_cons_zero, List.set_cons_succ]
            rfl
          refine pure_ (i := 9) (N := some 45) (v := ?_) (a' := ?_) #[true, true, true, true, true, true, true, true, true, true, true, false] rfl rfl (by kernel_rfl) (fun _ _ _ h => h) (Or.inl ⟨by rfl, ?_⟩) ?_ ?_
          rotate_left
          · intro w'
            go_simp
            with_reducible rfl
          rotate_left
          · simp only [Act.put, List.setIfInBounds_toArray, List.set_cons_zero, List.set_cons_succ]
            rfl
          exact norm_ (by simp only [putAll, Act.put, List.setIfInBounds_toArray, List.set_cons_zero, List.set_cons_succ]) (hCont ((A2, cc2), (A7, cc7), u7.heap.size, u2.heap.size) _ ⟨X, by dsimp only; omega, by dsimp only; omega, dz, Kd.R_mono (Kd.R_lower r2 (by omega)) (fun k hk => by dsimp only; omega), Kd.R_mono r8 (fun k hk => by dsimp only; omega)⟩)
      · skip
        refine value_ (w1 := ?_) (v := ?_) (by rfl) rfl ?_ ?_
        rotate_left 2
        · go_simp
          constructor
          · rfl
          · rfl
        change K _ (W0.alloc (.cells #[.slice none 0 0, .slice none 0 0, .slice none 0 0, .slice none 0 0, .slice none 0 0, .slice none 0 0, .slice none 0 0] 30))
        have hb := below_alloc (Below.refl W0.heap.size W0) (.cells #[.slice none 0 0, .slice none 0 0, .slice none 0 0, .slice none 0 0, .slice none 0 0, .slice none 0 0, .slice none 0 0] 30)
        have sz := Nat.le_of_eq (World.size_alloc W0 (.cells #[.slice none 0 0, .slice none 0 0, .slice none 0 0, .slice none 0 0, .slice none 0 0, .slice none 0 0, .slice none 0 0] 30)).symm
        have dz := blk_new W0 (.cells #[.slice none 0 0, .slice none 0 0, .slice none 0 0, .slice none 0 0, .slice none 0 0, .slice none 0 0, .slice none 0 0] 30)
        generalize W0.alloc (.cells #[.slice none 0 0, .slice none 0 0, .slice none 0 0, .slice none 0 0, .slice none 0 0, .slice none 0 0, .slice none 0 0] 30) = u10 at hb sz dz ⊢
        have X := X.step hb
        have sz10 := hb.size
        clear hb
        refine hK.out _ _ ⟨(blk_cell X.c 0).trans rfl, (blk_cell X.t 0).trans rfl, (blk_cell X.t 1).trans rfl, (blk_cell X.t 2).trans rfl, (blk_cell X.t 3).trans rfl⟩ (fun hHeld => ?_)
        clear hK K
        refine norm_ (a' := ?_) ?_ ?_
        rotate_left
        · show Act.put _ (some 7) _ = _
          simp only [Act.put, List.setIfInBounds_toArray, List.set_cons_zero, List.set_cons_succ]
          rfl
        refine one_ (i := 2) (N := some 38) #[true, true, true, true, true, true, true, false, false, false, true, false] rfl rfl (by kernel_rfl) (by decide) (fun K hK => ?_)
        refine Kd.R_append_rows_step k62 (Rr := k62.K u10) (w0 := u10) u10.heap.size rfl (.const (.slice none 0 0)) (.tmp 37) 22 62 _ 24 rfl Try.underlying22 info62 rfl (by decide) (by decide) (.slice none 0 0) [] x.f0 A0 x.f0.length c0 (fun _ => True) (fun _ => True) rfl rfl (Kd.R_nil _ _ _ _ _) (Kd.C_below g0 X.be) (fun x cs hx => by obtain rfl := k62_open hx; exact k62_mkM _ _ _ _) (fun k _ => ⟨trivial, by simp [Value.ownBlock]⟩) (fun _ _ => trivial) (Below.refl _ _) (Nat.le_refl _) (by simp; omega) ?_
        intro v2 u2 hR2 _ hg2 _
        rw [List.nil_append] at hR2
        obtain ⟨A2, cc2, rfl⟩ := Kd.R_slice hR2
        have hb := grown_below hg2
        have X := X.step hb
        have sz2 := hb.size
        have dz := blk_below dz hb
        have r2 := Kd.R_mono (Kd.R_bound hR2) (ok' := fun k => u10.heap.size ≤ k ∧ k < u2.heap.size) (fun k hk => ⟨hk.2.1, hk.2.2.1⟩)
        clear hR2 hg2 hb
        refine hK.out _ _ ⟨(blk_cell X.c 0).trans rfl, (blk_cell X.t 0).trans rfl, (blk_cell X.t 1).trans rfl, (blk_cell X.t 2).trans rfl, (blk_cell X.t 3).trans rfl⟩ (fun hHeld => ?_)
        clear hK K
        refine norm_ (a' := ?_) ?_ ?_
        rotate_left
        · show Act.put _ (some 38) _ = _
          simp only [Act.put, List.setIfInBounds_toArray, List.set_cons_zero, List.set_cons_succ]
          rfl
        refine one_ (i := 7) (N := some 43) #[true, true, true, true, true, true, true, true, false, false, true, false] rfl rfl (by kernel_rfl) (by decide) (fun K hK => ?_)
        refine goes_ Try.func53 (by kernel_rfl) rfl #[.agg #[.string t.f0, .int .i64 t.f1, .int .i64 t.f2, .slice At t.f3.length ct], .int .i64 (-t.f1)] (by rfl) rfl rfl (by simp only [List.map_toArray, List.map_cons, List.map_nil]; rfl) ?_
        with_reducible refine (copyText_calls At ct t (-t.f1) u2 (Kd.C_below gt.out X.be) (by omega) n2.out n3.out).mono ?_
        rintro e u7 ⟨v7, rfl, hR7, hb⟩
        obtain ⟨A7, cc7, rfl⟩ := Kd.R_slice hR7
        have X := X.step hb
        have sz7 := hb.size
        have r2 := Kd.R_below r2 hb
        have dz := blk_below dz hb
        have r7 := Kd.R_mono (Kd.R_bound hR7) (ok' := fun k => u2.heap.size ≤ k ∧ k < u7.heap.size) (fun k hk => ⟨hk.2.1, hk.2.2.1⟩)
        have r7 := Kd.R_lower r7 (base' := W0.heap.size) (by omega)
        clear hR7 hb
        refine ⟨_, rfl, ?_⟩
        refine hK.out _ _ ⟨(blk_cell X.c 0).trans rfl, (blk_cell X.t 0).trans rfl, (blk_cell X.t 1).trans rfl, (blk_cell X.t 2).trans rfl, (blk_cell X.t 3).trans rfl⟩ (fun hHeld => ?_)
        clear hK K
        refine norm_ (a' := ?_) ?_ ?_
        rotate_left
        · show Act.put _ (some 43) _ = _
          simp only [Act.put, List.setIfInBounds_toArray, List.set_cons_zero, List.set_cons_succ]
          rfl
        refine one_ (i := 8) (N := some 44) #[true, true, true, true, true, true, true, true, true, false, true, false] rfl rfl (by kernel_rfl) (by decide) (fun K hK => ?_)
        refine value_ (w1 := ?_) (v := ?_) (by rfl) rfl ?_ ?_
        rotate_left 2
        · go_simp
          constructor
          · rfl
          · rfl
        change K _ (u7.alloc (.cells #[.string t.f0, .int .i64 (t.f1 + -t.f1), .int .i64 (t.f2 + -t.f1), .slice A7 t.f3.length cc7] 64))
        have r8 := R_one k64 64 u7 W0.heap.size (shiftT t (-t.f1)) [.string t.f0, .int .i64 (t.f1 + -t.f1), .int .i64 (t.f2 + -t.f1), .slice A7 t.f3.length cc7] (k64_mkM _ _ _ (shiftT t (-t.f1)) r7) (by omega)
        have r8 := Kd.R_mono r8 (ok' := fun k => (k < u7.heap.size ∧ (u2.heap.size ≤ k)) ∨ k = u7.heap.size) (fun k hk => hk.elim (fun h => .inl ⟨h.1.2, h.1.1⟩) .inr)
        have hb := below_alloc (Below.refl u7.heap.size u7) (.cells #[.string t.f0, .int .i64 (t.f1 + -t.f1), .int .i64 (t.f2 + -t.f1), .slice A7 t.f3.length cc7] 64)
        have sz := Nat.le_of_eq (World.size_alloc u7 (.cells #[.string t.f0, .int .i64 (t.f1 + -t.f1), .int .i64 (t.f2 + -t.f1), .slice A7 t.f3.length cc7] 64)).symm
        generalize u7.alloc (.cells #[.string t.f0, .int .i64 (t.f1 + -t.f1), .int .i64 (t.f2 + -t.f1), .slice A7 t.f3.length cc7] 64) = u8 at hb sz r8 ⊢
        have X := X.step hb
        have sz8 := hb.size
        have r2 := Kd.R_below r2 hb
        have r7 := Kd.R_below r7 hb
        have dz := blk_below dz hb
        clear hb
        refine hK.out _ _ ⟨(blk_cell X.c 0).trans rfl, (blk_cell X.t 0).trans rfl, (blk_cell X.t 1).trans rfl, (blk_cell X.t 2).trans rfl, (blk_cell X.t 3).trans rfl⟩ (fun hHeld => ?_)
        clear hK K
        refine norm_ (a' := ?_) ?_ ?_
        rotate_left
        · show Act.put _ (some 44) _ = _
          simp only [Act.put, List.setIfInBounds_toArray, List.set_cons_zero, List.set_cons_succ]
          rfl
        refine pure_ (i := 9) (N := some 45) (v := ?_) (a' := ?_) #[true, true, true, true, true, true, true, true, true, true, true, false] rfl rfl (by kernel_rfl) (fun _ _ _ h => h) (Or.inl ⟨by rfl, ?_⟩) ?_ ?_
        rotate_left
        · intro w'
          go_simp
          with_reducible rfl
        rotate_left
        · simp only [Act.put, List.setIfInBounds_toArray, List.set_cons_zero, List.set_cons_succ]
          rfl
        exact norm_ (by simp only [putAll, Act.put, List.setIfInBounds_toArray, List.set_cons_zero, List.set_cons_succ]) (hCont ((A2, cc2), (A7, cc7), u7.heap.size, W0.heap.size) _ ⟨X, by dsimp only; omega, by dsimp only; omega, dz, Kd.R_mono (Kd.R_lower r2 (by omega)) (fun k hk => by dsimp only; omega), Kd.R_mono r8 (fun k hk => by dsimp only; omega)⟩)
    rintro ⟨⟨A2, cc2⟩, ⟨A7, cc7⟩, g8, gd⟩ w1 ⟨X, hgd1, hgd0, dz, r2, r8⟩
    dsimp only at X hgd1 hgd0 dz r2 r8
    have hHeld : w1.cell? ⟨w.heap.size, 0, none⟩ = some (.slice A0 x.f0.length c0) ∧ w1.cell? ⟨gT, 0, none⟩ = some (.string t.f0) ∧ w1.cell? ⟨gT, 1, none⟩ = some (.int .i64 t.f1) ∧ w1.cell? ⟨gT, 2, none⟩ = some (.int .i64 t.f2) ∧ w1.cell? ⟨gT, 3, none⟩ = some (.slice At t.f3.length ct) := ⟨(blk_cell X.c 0).trans rfl, (blk_cell X.t 0).trans rfl, (blk_cell X.t 1).trans rfl, (blk_cell X.t 2).trans rfl, (blk_cell X.t 3).trans rfl⟩
    dsimp only
    refine norm_ (a' := ?_) ?_ ?_
    rotate_left
    · simp only [putAll, Act.put, List.setIfInBounds_toArray, List.set_cons_zero, List.set_cons_succ]
      rfl
    refine one_ (i := 11) (N := none) #[true, true, true, true, true, true, true, true, true, true, true, true] rfl rfl (by kernel_rfl) (by decide) (fun K hK => ?_)
    have zc0 := (blk_cell dz 0).trans rfl
    have zc1 := (blk_cell dz 1).trans rfl
    have zc2 := (blk_cell dz 2).trans rfl
    have zc3 := (blk_cell dz 3).trans rfl
    have zc4 := (blk_cell dz 4).trans rfl
    have zc5 := (blk_cell dz 5).trans rfl
    have zc6 := (blk_cell dz 6).trans rfl
    have zf0 := blk_frozen dz 0
    have zf1 := blk_frozen dz 1
    have zf2 := blk_frozen dz 2
    have zf3 := blk_frozen dz 3
    have zf4 := blk_frozen dz 4
    have zf5 := blk_frozen dz 5
    have zf6 := blk_frozen dz 6
    refine skip_ (w1 := ?_) (by rfl) rfl ?_ ?_
    rotate_left
    · go_simp
      rfl
    clear zc0 zf0 zc1 zf1 zc2 zf2 zc3 zf3 zc4 zf4 zc5 zf5 zc6 zf6
    change K _ (put7 w1 gd (.slice A2 x.f0.length cc2) (.slice none 0 0) (.slice (some ⟨g8, 0, none⟩) 1 1) (.slice none 0 0) (.slice none 0 0) (.slice none 0 0) (.slice none 0 0))
    replace X := X.put7 (g' := gd) (by omega) (by omega) (.slice A2 x.f0.length cc2) (.slice none 0 0) (.slice (some ⟨g8, 0, none⟩) 1 1) (.slice none 0 0) (.slice none 0 0) (.slice none 0 0) (.slice none 0 0)
    replace r2 := R_put7 r2 (g := gd) (fun _ h => h) (.slice A2 x.f0.length cc2) (.slice none 0 0) (.slice (some ⟨g8, 0, none⟩) 1 1) (.slice none 0 0) (.slice none 0 0) (.slice none 0 0) (.slice none 0 0)
    replace r8 := R_put7 r8 (g := gd) (fun _ h => h) (.slice A2 x.f0.length cc2) (.slice none 0 0) (.slice (some ⟨g8, 0, none⟩) 1 1) (.slice none 0 0) (.slice none 0 0) (.slice none 0 0) (.slice none 0 0)
    replace dz := put7_blk dz (.slice A2 x.f0.length cc2) (.slice none 0 0) (.slice (some ⟨g8, 0, none⟩) 1 1) (.slice none 0 0) (.slice none 0 0) (.slice none 0 0) (.slice none 0 0)
    generalize put7 w1 gd (.slice A2 x.f0.length cc2) (.slice none 0 0) (.slice (some ⟨g8, 0, none⟩) 1 1) (.slice none 0 0) (.slice none 0 0) (.slice none 0 0) (.slice none 0 0) = W1 at X r2 r8 dz ⊢
    refine hK.out _ _ ⟨(blk_cell X.c 0).trans rfl, (blk_cell X.t 0).trans rfl, (blk_cell X.t 1).trans rfl, (blk_cell X.t 2).trans rfl, (blk_cell X.t 3).trans rfl⟩ (fun hHeld => ?_)
    clear hK K
    refine done_ (by kernel_rfl) ?_
    have y0 := (blk_cell X.c 0).trans rfl
    have y1 := (blk_cell X.c 1).trans rfl
    have y2 := (blk_cell X.c 2).trans rfl
    have y3 := (blk_cell X.c 3).trans rfl
    have y4 := (blk_cell X.c 4).trans rfl
    have y5 := (blk_cell X.c 5).trans rfl
    have y6 := (blk_cell X.c 6).trans rfl
    have y10 := (blk_cell X.t 0).trans rfl
    have y11 := (blk_cell X.t 1).trans rfl
    have y12 := (blk_cell X.t 2).trans rfl
    have y13 := (blk_cell X.t 3).trans rfl
    have hb0 : 0 ≤ t.f1 := htb.1
    have hb1 : t.f1 ≤ t.f2 := Int.le_of_lt htb.2.1
    have hb2 : t.f2 ≤ (c1 : Int) := by have := htb.2.2.1; omega
    have hb3 : t.f1 < t.f2 := htb.2.1
    have hb4 : t.f2 ≤ (x.f1.length : Int) := htb.2.2.1
    obtain ⟨a1, rfl⟩ : ∃ a1, A1 = some a1 := by
      obtain ⟨a1, _, e, _⟩ := Kd.C_get g1 [] 0 (by omega) (by omega)
      exact ⟨a1, e⟩
    have gM := Kd.C_mid g1 (lo := t.f1.toNat) (hi := t.f2.toNat) (c := c1) (by omega) (by omega) (by omega)
    rw [if_neg (by omega), show t.f1.toNat * (Kd.slice 9 Kd.string).sz = t.f1.toNat from Nat.mul_one _] at gM
    have HM : Aside0 ((Kd.slice 9 Kd.string).C w (some (a1.add t.f1.toNat)) (mid x.f1 t.f1 t.f2).length (mid x.f1 t.f1 t.f2)) := ⟨gM⟩
    clear gM
    have hml : (mid x.f1 t.f1 t.f2).length = t.f2.toNat - t.f1.toNat := by rw [mid, List.length_drop, List.length_take]; omega
    have HML := Aside0.mk hml
    have HRow : Aside0 (∀ r ∈ mid x.f1 t.f1 t.f2, r.length ≤ 8) := ⟨fun r hr => by have := toks_in HV.out.2.1 r (List.mem_of_mem_take (List.mem_of_mem_drop hr)); omega⟩
    have hm8 : (mid x.f1 t.f1 t.f2).length ≤ 4096 := by omega
    clear hml
    have hgd : gT < gd := hgd1
    have hwd : w.heap.size + 1 < gd := by omega
    have hWs : w.heap.size ≤ W1.heap.size := X.be.size
    have hgdW : gd < W1.heap.size := blk_lt dz
    go_wp2
    generalize hn : t.f2.toNat - t.f1.toNat = n
    replace hn := Aside0.mk hn
    have HMn : Aside0 ((mid x.f1 t.f1 t.f2).length = n) := ⟨HML.out.trans hn.out⟩
    have hn4 : n ≤ 4096 := by have := HMn.out; omega
    go_loopw [54] (fun i W2 => ∃ (kk : Nat) (lp : List (List ByteArray)) (Av : Option Addr) (cv : Nat), kk ≤ n ∧ i = .int .i64 kk ∧ Aside0 (lp = (mid x.f1 t.f1 t.f2).take kk) ∧ St w W1 gd #[.slice A2 x.f0.length cc2, .slice Av lp.length cv, .slice (some ⟨g8, 0, none⟩) 1 1, .slice none 0 0, .slice none 0 0, .slice none 0 0, .slice none 0 0] W2 ∧ Aside0 ((Kd.slice 9 Kd.string).R 28 W2 W1.heap.size (fun b => b ≠ gd) (.slice Av lp.length cv) lp)) (fun i _ => n - (intOf i).toNat)
    case atStart => exact ⟨0, [], none, 0, Nat.zero_le _, rfl, ⟨rfl⟩, St.refl X dz, ⟨Kd.R_nil _ _ _ _ _⟩⟩
    case round =>
      rename World => W2
      obtain ⟨kk, lp, Av, cv, hkk, rfl, HLP, HS, HR⟩ := hrel
      have HX := HS.xs X hwd (by omega)
      have hsz := HS.size
      by_cases hlt : kk < n
      · obtain ⟨ad', e, Ae, ce, hA, hde, hee, q0, le, ge⟩ := elL HM ⟨HX.be⟩ kk (by rw [HMn.out]; exact hlt)
        obtain rfl := Option.some.inj hA
        have hel := HRow.out e (List.mem_of_getElem? hee.out)
        have HLT : Aside0 (lp.length ≤ 4096) := ⟨by rw [HLP.out, List.length_take]; omega⟩
        go_wp2
        have HS0 := HS.drew
        have HR0 := Kd.R_below HR.out (pw_below_drewN (Below.refl _ _) 1 : Below W2.heap.size W2 (W2.drewN 1))
        have hbase : ∀ b, (Value.slice Av lp.length cv).ownBlock = some b → W1.heap.size ≤ b := (Kd.R_own HR.out).elim fun _ h => own_base h
        have hown : ∀ b, (Value.slice Av lp.length cv).ownBlock = some b → b < W2.heap.size := (Kd.R_own HR.out).elim fun _ h => own_lt h
        have hsz0 : W2.heap.size ≤ W2.drew.heap.size := Nat.le_refl _
        refine start_ (n := 8) (S := fun w' => w'.cell? ⟨gd, 1, none⟩ = some (.slice Av lp.length cv)) (ds := [7]) #[false, false, false, false, false, false, false, false] (by kernel_rfl) rfl rfl ((blk_cell HS0.d 1).trans rfl) (fun hHeld => ?_)
        change Kd.R _ _ W2.drew _ _ _ _ at HR0
        generalize W2.drew = U0 at HS0 HR0 hsz0 hHeld ⊢
        refine pure_ (i := 0) (N := some 58) (v := ?_) (a' := ?_) #[true, false, false, false, false, false, false, false] rfl rfl (by kernel_rfl) (fun _ _ _ h => h) (Or.inl ⟨by rfl, ?_⟩) ?_ ?_
        rotate_left
        · intro w'
          go_simp
          with_reducible rfl
        rotate_left
        · simp only [Act.put, List.setIfInBounds_toArray, List.set_cons_zero, List.set_cons_succ]
          rfl
        refine pure_ (i := 2) (N := some 60) (v := ?_) (a' := ?_) #[true, false, true, false, false, false, false, false] rfl rfl (by kernel_rfl) (fun _ _ _ h => h) (Or.inl ⟨by rfl, ?_⟩) ?_ ?_
        rotate_left
        · intro w'
          go_simp
          with_reducible rfl
        rotate_left
        · simp only [Act.put, List.setIfInBounds_toArray, List.set_cons_zero, List.set_cons_succ]
          rfl
        refine take_ (i := 1) (N := some 59) (v := ?_) (a' := ?_) #[true, true, true, false, false, false, false, false] rfl rfl (by kernel_rfl) (fun _ _ _ h => h) (Or.inl ⟨by rfl, ?_⟩) hHeld ?_ ?_
        rotate_left
        · intro w' s0
          go_simp
          with_reducible rfl
        rotate_left
        · simp only [Act.put, List.setIfInBounds_toArray, List.set_cons_zero, List.set_cons_succ]
          rfl
        refine one_ (i := 3) (N := some 61) #[true, true, true, true, false, false, false, false] rfl rfl (by kernel_rfl) (by decide) (fun K hK => ?_)
        refine Kd.R_append_rows_step Kd.string (Rr := Kd.string.K U0) (w0 := U0) U0.heap.size rfl (.const (.slice none 0 0)) (.tmp 60) 28 9 _ 16 rfl Try.underlying28 info9 rfl (by decide) (by decide) (.slice none 0 0) [] e Ae e.length ce (fun _ => True) (fun _ => True) rfl rfl (Kd.R_nil _ _ _ _ _) (Kd.C_below ge.out HS0.be) (fun x cs hx => hx) (fun k _ => ⟨trivial, by simp [Value.ownBlock]⟩) (fun _ _ => trivial) (Below.refl _ _) (Nat.le_refl _) (by simp; omega) ?_
        intro v3 u3 hR3 _ hg3 _
        rw [List.nil_append] at hR3
        obtain ⟨A3e, c3e, rfl⟩ := Kd.R_slice hR3
        have hb := grown_below hg3
        have HS3 := HS0.step hb
        have HR3 := Kd.R_below HR0 hb
        have sz3 := hb.size
        clear hg3 hb
        refine hK.out _ _ ((blk_cell HS3.d 1).trans rfl) (fun hHeld => ?_)
        clear hK K
        refine norm_ (a' := ?_) ?_ ?_
        rotate_left
        · show Act.put _ (some 61) _ = _
          simp only [Act.put, List.setIfInBounds_toArray, List.set_cons_zero, List.set_cons_succ]
          rfl
        refine one_ (i := 4) (N := some 62) #[true, true, true, true, true, false, false, false] rfl rfl (by kernel_rfl) (by decide) (fun K hK => ?_)
        refine value_ (w1 := ?_) (v := ?_) (by rfl) rfl ?_ ?_
        rotate_left 2
        · go_simp
          constructor
          · rfl
          · rfl
        change K _ (u3.alloc (.cells #[.slice A3e e.length c3e] 28))
        refine hK.out _ _ ((blk_cell (HS3.alloc _).d 1).trans rfl) (fun hHeld => ?_)
        clear hK K
        refine norm_ (a' := ?_) ?_ ?_
        rotate_left
        · show Act.put _ (some 62) _ = _
          simp only [Act.put, List.setIfInBounds_toArray, List.set_cons_zero, List.set_cons_succ]
          rfl
        refine one_ (i := 5) (N := some 63) #[true, true, true, true, true, true, false, false] rfl rfl (by kernel_rfl) (by decide) (fun K hK => ?_)
        refine Kd.R_append_step (Kd.slice 9 Kd.string) (w0 := u3) (W := u3) W1.heap.size rfl (.tmp 59) (.tmp 62) 23 28 _ 24 rfl Try.underlying23 info28 rfl (by decide) (by decide) (.slice Av lp.length cv) lp e [.slice A3e e.length c3e] (fun b => b ≠ gd) (fun b => b ≠ gd ∧ some b ≠ (Value.slice Av lp.length cv).ownBlock) rfl rfl ⟨_, rfl, Kd.R_lower (Kd.R_mono (Kd.R_bound hR3) (fun b hb => ⟨by have := hb.2.1; omega, fun e => by have := hown b e.symm; have := hb.2.1; omega⟩)) (by omega)⟩ (fun _ h => h) (fun b hb => by omega) HR3 (Below.refl _ _) (by omega) (by have := HLT.out; omega) ?_
        intro v5 u5 hR5 _ hg5 _
        generalize hlq : lp ++ [e] = lq at hR5
        replace hlq := Aside0.mk hlq
        obtain ⟨A5e, c5e, rfl⟩ := Kd.R_slice hR5
        have HS5 := HS3.grown hg5 hbase hWs hgdW
        refine hK.out _ _ ((blk_cell HS5.d 1).trans rfl) (fun hHeld => ?_)
        clear hK K
        refine norm_ (a' := ?_) ?_ ?_
        rotate_left
        · show Act.put _ (some 63) _ = _
          simp only [Act.put, List.setIfInBounds_toArray, List.set_cons_zero, List.set_cons_succ]
          rfl
        refine pure_ (i := 6) (N := some 64) (v := ?_) (a' := ?_) #[true, true, true, true, true, true, true, false] rfl rfl (by kernel_rfl) (fun _ _ _ h => h) (Or.inl ⟨by rfl, ?_⟩) ?_ ?_
        rotate_left
        · intro w'
          go_simp
          with_reducible rfl
        rotate_left
        · simp only [Act.put, List.setIfInBounds_toArray, List.set_cons_zero, List.set_cons_succ]
          rfl
        refine last_ (i := 7) (N := none) #[true, true, true, true, true, true, true, true] rfl rfl (by kernel_rfl) (by decide) (fun K hK => ?_)
        have zc := (blk_cell HS5.d 1).trans rfl
        have zf := blk_frozen HS5.d 1
        refine skip_ (w1 := ?_) (by rfl) rfl ?_ ?_
        rotate_left
        · go_simp
          rfl
        refine hK.out _ _ ?_
        clear hK K
        refine done_ (by kernel_rfl) ?_
        go_wp2_with fail
        go_roundw
        case rel =>
          exact ⟨kk + 1, lq, A5e, c5e, by omega, by go_num, ⟨by rw [← hlq.out, HLP.out, List.take_add_one, hee.out]; rfl⟩, HS5.put (by omega) 1 _ rfl, ⟨Kd.R_far (p := ⟨gd, 1, none⟩) hR5 (fun _ h => h) _⟩⟩
        case measure => simp [intOf]; omega
      · obtain rfl : kk = n := by omega
        rw [List.take_of_length_le (Nat.le_of_eq HMn.out)] at HLP
        have HLP' := HLP.out
        subst HLP'
        have r1 := HR.out
        replace r2 := Kd.R_keep r2 HS.kp (fun _ h => h)
        replace r8 := Kd.R_keep r8 HS.kp (fun _ h => h)
        have X2 := HX
        have dz2 := HS.d
        clear y0 y1 y2 y3 y4 y5 y6 y10 y11 y12 y13 HR HMn HML
        generalize hM1 : mid x.f1 t.f1 t.f2 = M1 at *
        replace hM1 := Aside0.mk hM1
        have HG := Aside0.mk (regs_ok HV.out.2.2.2.1)
        have hg3l := HG.out.1
        have HG3 : Aside0 (k39.C w A3 x.f3.length x.f3) := ⟨g3⟩
        have hWs2 : w.heap.size ≤ W2.heap.size := HS.be.size
        have hgdW2 : gd < W2.heap.size := blk_lt dz2
        generalize hAv : Av = Av1 at *
        generalize hcv : cv = cv1 at *
        clear hAv hcv
        have y0 := (blk_cell X2.c 0).trans rfl
        have y1 := (blk_cell X2.c 1).trans rfl
        have y2 := (blk_cell X2.c 2).trans rfl
        have y3 := (blk_cell X2.c 3).trans rfl
        have y4 := (blk_cell X2.c 4).trans rfl
        have y5 := (blk_cell X2.c 5).trans rfl
        have y6 := (blk_cell X2.c 6).trans rfl
        have y10 := (blk_cell X2.t 0).trans rfl
        have y11 := (blk_cell X2.t 1).trans rfl
        have y12 := (blk_cell X2.t 2).trans rfl
        have y13 := (blk_cell X2.t 3).trans rfl
        go_wp2
        go_loopw [69] (fun i W3 => ∃ (kk : Nat) (lp : List S39) (Av : Option Addr) (cv : Nat), kk ≤ x.f3.length ∧ i = .int .i64 kk ∧ Aside0 (cutR t x.f3 = lp ++ cutR t (x.f3.drop kk)) ∧ Aside0 (lp.length ≤ kk) ∧ St w W2 gd #[.slice A2 x.f0.length cc2, .slice Av1 M1.length cv1, .slice (some ⟨g8, 0, none⟩) 1 1, .slice Av lp.length cv, .slice none 0 0, .slice none 0 0, .slice none 0 0] W3 ∧ Aside0 (k39.R 39 W3 W2.heap.size (fun b => b ≠ gd) (.slice Av lp.length cv) lp)) (fun i _ => x.f3.length - (intOf i).toNat)
        case atStart => exact ⟨0, [], none, 0, Nat.zero_le _, rfl, ⟨by simp⟩, ⟨Nat.le_refl _⟩, St.refl X2 dz2, ⟨Kd.R_nil _ _ _ _ _⟩⟩
        case round =>
          rename World => W3
          clear y0 y1 y2 y3 y4 y5 y6 y10 y11 y12 y13
          obtain ⟨kk, lp, Av, cv, hkk, rfl, HLP, HLL, HS, HR⟩ := hrel
          have HX := HS.xs X2 hwd (by omega)
          have hsz := HS.size
          by_cases hlt : kk < x.f3.length
          · obtain ⟨a3, r, Ar, cr, rfl, hdr, hrr, q0, q1, q2, q3, lr, gr⟩ := el39 HG3 ⟨HX.be⟩ kk hlt
            have hrg := HG.out.2 r (List.mem_of_getElem? hrr.out)
            have hrl := pairs_le hrg.2
            have hrg1 := hrg.1
            have y11 := (blk_cell HX.t 1).trans rfl
            have y12 := (blk_cell HX.t 2).trans rfl
            have hgT3 : gT < W3.heap.size := blk_lt HX.t
            by_cases hi1 : t.f1 ≤ r.f1
            · by_cases hi2 : r.f2 ≤ t.f2
              · have HC : Aside0 (cutR t x.f3 = (lp ++ [shiftR r (-t.f1)]) ++ cutR t (x.f3.drop (kk + 1))) := ⟨by rw [HLP.out, hdr.out, cutR, List.filter_cons_of_pos (by simp [insR, hi1, hi2]), List.append_assoc]; rfl⟩
                go_wp2
                have HS0 := (HS.alloc (.cells #[.string r.f0, .int .i64 r.f1, .int .i64 r.f2, .slice Ar r.f3.length cr] 39)).drew
                have hbx := blk_drew (blk_new W3 (.cells #[.string r.f0, .int .i64 r.f1, .int .i64 r.f2, .slice Ar r.f3.length cr] 39))
                have HR0 := Kd.R_below HR.out (below_alloc (Below.refl _ _) (.cells #[.string r.f0, .int .i64 r.f1, .int .i64 r.f2, .slice Ar r.f3.length cr] 39))
                have HR0 := Kd.R_below HR0 (pw_below_drewN (Below.refl _ _) 1 : Below (W3.alloc (.cells #[.string r.f0, .int .i64 r.f1, .int .i64 r.f2, .slice Ar r.f3.length cr] 39)).heap.size (W3.alloc (.cells #[.string r.f0, .int .i64 r.f1, .int .i64 r.f2, .slice Ar r.f3.length cr] 39)) ((W3.alloc (.cells #[.string r.f0, .int .i64 r.f1, .int .i64 r.f2, .slice Ar r.f3.length cr] 39)).drewN 1))
                have hTb := blk_drew (blk_alloc HX.t (.cells #[.string r.f0, .int .i64 r.f1, .int .i64 r.f2, .slice Ar r.f3.length cr] 39))
                have hbase : ∀ b, (Value.slice Av lp.length cv).ownBlock = some b → W2.heap.size ≤ b := (Kd.R_own HR.out).elim fun _ h => own_base h
                have hown : ∀ b, (Value.slice Av lp.length cv).ownBlock = some b → b < W3.heap.size := (Kd.R_own HR.out).elim fun _ h => own_lt h
                have hsz0 : W3.heap.size ≤ (W3.alloc (.cells #[.string r.f0, .int .i64 r.f1, .int .i64 r.f2, .slice Ar r.f3.length cr] 39)).drew.heap.size := (below_alloc (Below.refl W3.heap.size W3) (.cells #[.string r.f0, .int .i64 r.f1, .int .i64 r.f2, .slice Ar r.f3.length cr] 39)).size
                have hn5 : Aside0 (IntKind.i64.wrap (r.f1 + -t.f1) = r.f1 + -t.f1) := ⟨IntWalk.i64_in _ (by omega)⟩
                have hn6 : Aside0 (IntKind.i64.wrap (r.f2 + -t.f1) = r.f2 + -t.f1) := ⟨IntWalk.i64_in _ (by omega)⟩
                have hgRd : W2.heap.size ≤ W3.heap.size := hsz
                have hgRo : (Value.slice Av lp.length cv).ownBlock ≠ some W3.heap.size := fun e => by have := hown _ e; omega
                change Kd.R _ _ (W3.alloc (.cells #[.string r.f0, .int .i64 r.f1, .int .i64 r.f2, .slice Ar r.f3.length cr] 39)).drew _ _ _ _ at HR0
                have hgTU : gT < (W3.alloc (.cells #[.string r.f0, .int .i64 r.f1, .int .i64 r.f2, .slice Ar r.f3.length cr] 39)).drew.heap.size := blk_lt hTb
                have hgRU : W3.heap.size < (W3.alloc (.cells #[.string r.f0, .int .i64 r.f1, .int .i64 r.f2, .slice Ar r.f3.length cr] 39)).drew.heap.size := blk_lt hbx
                refine start_ (n := 11) (S := fun w' => w'.cell? ⟨gd, 3, none⟩ = some (.slice Av lp.length cv) ∧ w'.cell? ⟨W3.heap.size, 0, none⟩ = some (.string r.f0) ∧ w'.cell? ⟨W3.heap.size, 1, none⟩ = some (.int .i64 r.f1) ∧ w'.cell? ⟨W3.heap.size, 2, none⟩ = some (.int .i64 r.f2) ∧ w'.cell? ⟨W3.heap.size, 3, none⟩ = some (.slice Ar r.f3.length cr) ∧ w'.cell? ⟨gT, 1, none⟩ = some (.int .i64 t.f1)) (ds := [10]) #[false, false, false, false, false, false, false, false, false, false, false] (by kernel_rfl) rfl rfl ⟨(blk_cell HS0.d 3).trans rfl, (blk_cell hbx 0).trans rfl, (blk_cell hbx 1).trans rfl, (blk_cell hbx 2).trans rfl, (blk_cell hbx 3).trans rfl, (blk_cell hTb 1).trans rfl⟩ (fun hHeld => ?_)
                generalize (W3.alloc (.cells #[.string r.f0, .int .i64 r.f1, .int .i64 r.f2, .slice Ar r.f3.length cr] 39)).drew = U0 at HS0 HR0 hsz0 hHeld hbx hTb hgTU hgRU ⊢
                generalize hgR : W3.heap.size = gR at hbx hgRo hgRd hgRU hown hsz0 hHeld ⊢
                refine pure_ (i := 0) (N := some 85) (v := ?_) (a' := ?_) #[true, false, false, false, false, false, false, false, false, false, false] rfl rfl (by kernel_rfl) (fun _ _ _ h => h) (Or.inl ⟨by rfl, ?_⟩) ?_ ?_
                rotate_left
                · intro w'
                  go_simp
                  with_reducible rfl
                rotate_left
                · simp only [Act.put, List.setIfInBounds_toArray, List.set_cons_zero, List.set_cons_succ]
                  rfl
                refine pure_ (i := 3) (N := some 88) (v := ?_) (a' := ?_) #[true, false, false, true, false, false, false, false, false, false, false] rfl rfl (by kernel_rfl) (fun _ _ _ h => h) (Or.inl ⟨by rfl, ?_⟩) ?_ ?_
                rotate_left
                · intro w'
                  go_simp
                  with_reducible rfl
                rotate_left
                · simp only [Act.put, List.setIfInBounds_toArray, List.set_cons_zero, List.set_cons_succ]
                  rfl
                refine take_ (i := 1) (N := some 86) (v := ?_) (a' := ?_) #[true, true, false, true, false, false, false, false, false, false, false] rfl rfl (by kernel_rfl) (fun _ _ _ h => h) (Or.inl ⟨by rfl, ?_⟩) hHeld ?_ ?_
                rotate_left
                · rintro w' ⟨s0, s1, s2, s3, s4, s5⟩
                  go_simp
                  with_reducible rfl
                rotate_left
                · simp only [Act.put, List.setIfInBounds_toArray, List.set_cons_zero, List.set_cons_succ]
                  rfl
                refine take_ (i := 2) (N := some 87) (v := ?_) (a' := ?_) #[true, true, true, true, false, false, false, false, false, false, false] rfl rfl (by kernel_rfl) (fun _ _ _ h => h) (Or.inl ⟨by rfl, ?_⟩) hHeld ?_ ?_
                rotate_left
                · rintro w' ⟨s0, s1, s2, s3, s4, s5⟩
                  go_simp
                  with_reducible rfl
                rotate_left
                · simp only [Act.put, List.setIfInBounds_toArray, List.set_cons_zero, List.set_cons_succ]
                  rfl
                refine take_ (i := 4) (N := some 89) (v := ?_) (a' := ?_) #[true, true, true, true, true, false, false, false, false, false, false] rfl rfl (by kernel_rfl) (fun _ _ _ h => h) (Or.inl ⟨by rfl, ?_⟩) hHeld ?_ ?_
                rotate_left
                · rintro w' ⟨s0, s1, s2, s3, s4, s5⟩
                  go_simp
                  with_reducible rfl
                rotate_left
                · simp only [Act.put, List.setIfInBounds_toArray, List.set_cons_zero, List.set_cons_succ]
                  rfl
                refine pure_ (i := 5) (N := some 90) (v := ?_) (a' := ?_) #[true, true, true, true, true, true, false, false, false, false, false] rfl rfl (by kernel_rfl) (fun _ _ _ h => h) (Or.inl ⟨by rfl, ?_⟩) ?_ ?_
                rotate_left
                · intro w'
                  go_simp
                  with_reducible rfl
                rotate_left
                · simp only [Act.put, List.setIfInBounds_toArray, List.set_cons_zero, List.set_cons_succ, i64_w, nW1.out]
                  rfl
                refine one_ (i := 6) (N := some 91) #[true, true, true, true, true, true, true, false, false, false, false] rfl rfl (by kernel_rfl) (by decide) (fun K hK => ?_)
                refine goes_ Try.func54 (by kernel_rfl) rfl #[.agg #[.string r.f0, .int .i64 r.f1, .int .i64 r.f2, .slice Ar r.f3.length cr], .int .i64 (-t.f1)] (by rfl) rfl rfl (by simp only [List.map_toArray, List.map_cons, List.map_nil]; rfl) ?_
                with_reducible refine (copyRegion_calls Ar cr r (-t.f1) U0 (Kd.C_below gr.out HS0.be) (by omega) hn5.out hn6.out).mono ?_
                rintro e u6 ⟨v6, rfl, hR6, hb⟩
                obtain ⟨A6e, c6e, rfl⟩ := Kd.R_slice hR6
                have HS6 := HS0.step hb
                have HR6 := Kd.R_below HR0 hb
                have hbx6 := blk_below hbx hb
                have hTb6 := blk_below hTb hb
                have sz6 := hb.size
                clear hb
                refine ⟨_, rfl, ?_⟩
                refine hK.out _ _ ⟨(blk_cell HS6.d 3).trans rfl, (blk_cell hbx6 0).trans rfl, (blk_cell hbx6 1).trans rfl, (blk_cell hbx6 2).trans rfl, (blk_cell hbx6 3).trans rfl, (blk_cell hTb6 1).trans rfl⟩ (fun hHeld => ?_)
                clear hK K
                refine norm_ (a' := ?_) ?_ ?_
                rotate_left
                · show Act.put _ (some 91) _ = _
                  simp only [Act.put, List.setIfInBounds_toArray, List.set_cons_zero, List.set_cons_succ]
                  rfl
                refine one_ (i := 7) (N := some 92) #[true, true, true, true, true, true, true, true, false, false, false] rfl rfl (by kernel_rfl) (by decide) (fun K hK => ?_)
                refine value_ (w1 := ?_) (v := ?_) (by rfl) rfl ?_ ?_
                rotate_left 2
                · go_simp
                  constructor
                  · rfl
                  · rfl
                change K _ (u6.alloc (.cells #[.string r.f0, .int .i64 (r.f1 + -t.f1), .int .i64 (r.f2 + -t.f1), .slice A6e r.f3.length c6e] 39))
                refine hK.out _ _ ⟨(blk_cell (HS6.alloc _).d 3).trans rfl, (blk_cell (blk_alloc hbx6 _) 0).trans rfl, (blk_cell (blk_alloc hbx6 _) 1).trans rfl, (blk_cell (blk_alloc hbx6 _) 2).trans rfl, (blk_cell (blk_alloc hbx6 _) 3).trans rfl, (blk_cell (blk_alloc hTb6 _) 1).trans rfl⟩ (fun hHeld => ?_)
                clear hK K
                refine norm_ (a' := ?_) ?_ ?_
                rotate_left
                · show Act.put _ (some 92) _ = _
                  simp only [Act.put, List.setIfInBounds_toArray, List.set_cons_zero, List.set_cons_succ]
                  rfl
                refine one_ (i := 8) (N := some 93) #[true, true, true, true, true, true, true, true, true, false, false] rfl rfl (by kernel_rfl) (by decide) (fun K hK => ?_)
                refine Kd.R_append_step k39 (w0 := u6) (W := u6) W2.heap.size rfl (.tmp 86) (.tmp 92) 25 39 _ 56 rfl Try.underlying25 info39 rfl (by decide) (by decide) (.slice Av lp.length cv) lp (shiftR r (-t.f1)) [.string r.f0, .int .i64 (r.f1 + -t.f1), .int .i64 (r.f2 + -t.f1), .slice A6e r.f3.length c6e] (fun b => b ≠ gd) (fun b => b ≠ gd ∧ some b ≠ (Value.slice Av lp.length cv).ownBlock) rfl rfl (k39_mkM _ _ _ (shiftR r (-t.f1)) (Kd.R_lower (Kd.R_mono (Kd.R_bound hR6) (fun b hb => ⟨by have := hb.2.1; omega, fun e => by have := hown b e.symm; have := hb.2.1; omega⟩)) (by omega))) (fun _ h => h) (fun b hb => by omega) HR6 (Below.refl _ _) (by omega) (by have := HLL.out; omega) ?_
                intro v8 u8 hR8 _ hg8 _
                generalize hlq : lp ++ [shiftR r (-t.f1)] = lq at hR8
                replace hlq := Aside0.mk hlq
                obtain ⟨A8e, c8e, rfl⟩ := Kd.R_slice hR8
                have HS8 := HS6.grown hg8 hbase hWs2 hgdW2
                have hbx8 := (hg8.block gR (by omega) (fun e => hgRo e.symm)).trans hbx6
                have hTb8 := (hg8.block gT (by omega) (fun e => by have := hbase gT e.symm; omega)).trans hTb6
                refine hK.out _ _ ⟨(blk_cell HS8.d 3).trans rfl, (blk_cell hbx8 0).trans rfl, (blk_cell hbx8 1).trans rfl, (blk_cell hbx8 2).trans rfl, (blk_cell hbx8 3).trans rfl, (blk_cell hTb8 1).trans rfl⟩ (fun hHeld => ?_)
                clear hK K
                refine norm_ (a' := ?_) ?_ ?_
                rotate_left
                · show Act.put _ (some 93) _ = _
                  simp only [Act.put, List.setIfInBounds_toArray, List.set_cons_zero, List.set_cons_succ]
                  rfl
                refine pure_ (i := 9) (N := some 94) (v := ?_) (a' := ?_) #[true, true, true, true, true, true, true, true, true, true, false] rfl rfl (by kernel_rfl) (fun _ _ _ h => h) (Or.inl ⟨by rfl, ?_⟩) ?_ ?_
                rotate_left
                · intro w'
                  go_simp
                  with_reducible rfl
                rotate_left
                · simp only [Act.put, List.setIfInBounds_toArray, List.set_cons_zero, List.set_cons_succ]
                  rfl
                refine last_ (i := 10) (N := none) #[true, true, true, true, true, true, true, true, true, true, true] rfl rfl (by kernel_rfl) (by decide) (fun K hK => ?_)
                have zc := (blk_cell HS8.d 3).trans rfl
                have zf := blk_frozen HS8.d 3
                refine skip_ (w1 := ?_) (by rfl) rfl ?_ ?_
                rotate_left
                · go_simp
                  rfl
                refine hK.out _ _ ?_
                clear hK K
                refine done_ (by kernel_rfl) ?_
                go_wp2_with fail
                exact ⟨⟨kk + 1, lq, A8e, c8e, by omega, by go_num, ⟨by rw [← hlq.out]; exact HC.out⟩, ⟨by have := HLL.out; rw [← hlq.out, List.length_append, List.length_singleton]; omega⟩, HS8.put (by omega) 3 _ rfl, ⟨Kd.R_far (p := ⟨gd, 3, none⟩) hR8 (fun _ h => h) _⟩⟩, by simp [intOf]; omega⟩
              · have HC : Aside0 (cutR t x.f3 = lp ++ cutR t (x.f3.drop (kk + 1))) := ⟨by rw [HLP.out, hdr.out, cutR, List.filter_cons_of_neg (by simp [insR, hi1, hi2])]; rfl⟩
                go_wp2
                go_roundw
                case rel => exact ⟨kk + 1, lp, Av, cv, by omega, by go_num, HC, ⟨by have := HLL.out; omega⟩, HS.alloc _, ⟨Kd.R_below HR.out (below_alloc (Below.refl _ _) _)⟩⟩
                case measure => simp [intOf]; omega
            · have HC : Aside0 (cutR t x.f3 = lp ++ cutR t (x.f3.drop (kk + 1))) := ⟨by rw [HLP.out, hdr.out, cutR, List.filter_cons_of_neg (by simp [insR, hi1])]; rfl⟩
              go_wp2
              go_roundw
              case rel => exact ⟨kk + 1, lp, Av, cv, by omega, by go_num, HC, ⟨by have := HLL.out; omega⟩, HS.alloc _, ⟨Kd.R_below HR.out (below_alloc (Below.refl _ _) _)⟩⟩
              case measure => simp [intOf]; omega
          · obtain rfl : kk = x.f3.length := by omega
            have HLP' : lp = cutR t x.f3 := by
              have h : cutR t x.f3 = lp ++ [] := by have h := HLP.out; rwa [List.drop_eq_nil_of_le (Nat.le_refl _)] at h
              rw [List.append_nil] at h; exact h.symm
            subst HLP'
            have r3 := HR.out
            replace r1 := Kd.R_keep r1 HS.kp (fun _ h => h)
            replace r2 := Kd.R_keep r2 HS.kp (fun _ h => h)
            replace r8 := Kd.R_keep r8 HS.kp (fun _ h => h)
            have X3 := HX
            have dz3 := HS.d
            have hWs3 : w.heap.size ≤ W3.heap.size := HS.be.size
            have hgdW3 : gd < W3.heap.size := blk_lt dz3
            clear HR HLP HLL
            generalize hLC : cutR t x.f3 = L3 at *
            generalize Av = Av3 at *
            generalize cv = cv3 at *
            have HN := Aside0.mk (nodes_ok HV.out.2.2.2.2.1)
            have hg4l := HN.out.1
            have HG4 : Aside0 (k74.C w A4 x.f4.length x.f4) := ⟨g4⟩
            have y0 := (blk_cell X3.c 0).trans rfl
            have y1 := (blk_cell X3.c 1).trans rfl
            have y2 := (blk_cell X3.c 2).trans rfl
            have y3 := (blk_cell X3.c 3).trans rfl
            have y4 := (blk_cell X3.c 4).trans rfl
            have y5 := (blk_cell X3.c 5).trans rfl
            have y6 := (blk_cell X3.c 6).trans rfl
            have y10 := (blk_cell X3.t 0).trans rfl
            have y11 := (blk_cell X3.t 1).trans rfl
            have y12 := (blk_cell X3.t 2).trans rfl
            have y13 := (blk_cell X3.t 3).trans rfl
            go_wp2
            go_loopw [12, 99] (fun f i W4 => ∃ (kk : Nat) (a : Int) (lp : List S74) (Av : Option Addr) (cv : Nat), kk ≤ x.f4.length ∧ f = .int .i64 a ∧ i = .int .i64 kk ∧ 0 ≤ a ∧ a ≤ kk ∧ Aside0 (cutN t x.f4 0 0 = lp ++ cutN t (x.f4.drop kk) a kk) ∧ Aside0 (lp.length ≤ kk) ∧ St w W3 gd #[.slice A2 x.f0.length cc2, .slice Av1 M1.length cv1, .slice (some ⟨g8, 0, none⟩) 1 1, .slice Av3 L3.length cv3, .slice Av lp.length cv, .slice none 0 0, .slice none 0 0] W4 ∧ Aside0 (k74.R 74 W4 W3.heap.size (fun b => b ≠ gd) (.slice Av lp.length cv) lp)) (fun _ i _ => x.f4.length - (intOf i).toNat)
            case atStart => exact ⟨0, 0, [], none, 0, Nat.zero_le _, rfl, rfl, Int.le_refl _, Int.le_refl _, ⟨by simp⟩, ⟨Nat.le_refl _⟩, St.refl X3 dz3, ⟨Kd.R_nil _ _ _ _ _⟩⟩
            case round =>
              rename World => W4
              clear y0 y1 y2 y3 y4 y5 y6 y10 y11 y12 y13
              obtain ⟨kk, a, lp, Av, cv, hkk, rfl, rfl, ha0, ha1, HLP, HLL, HS, HR⟩ := hrel
              have HX := HS.xs X3 hwd (by omega)
              have hsz := HS.size
              by_cases hlt : kk < x.f4.length
              · obtain ⟨a4, nd, rfl, hdr, hrr, q0, q1, q2, q3⟩ := el74 HG4 ⟨HX.be⟩ kk hlt
                have hrg := HN.out.2 kk nd hrr.out
                have hrg1 := hrg.1
                have hrg2 := hrg.2.1
                have hrg3 := hrg.2.2
                have y11 := (blk_cell HX.t 1).trans rfl
                have y12 := (blk_cell HX.t 2).trans rfl
                have hgT3 : gT < W4.heap.size := blk_lt HX.t
                by_cases hi1 : nd.f1 < t.f1
                · have HC : Aside0 (cutN t x.f4 0 0 = lp ++ cutN t (x.f4.drop (kk + 1)) ((kk : Int) + 1) (kk + 1)) := ⟨by rw [HLP.out, hdr.out, cutN, if_pos hi1]⟩
                  go_wp2
                  go_roundw
                  case rel => exact ⟨kk + 1, (kk : Int) + 1, lp, Av, cv, by omega, by go_num, by go_num, by omega, by omega, HC, ⟨by have := HLL.out; omega⟩, HS.alloc _, ⟨Kd.R_below HR.out (below_alloc (Below.refl _ _) _)⟩⟩
                  case measure => simp [intOf]; omega
                · by_cases hi2 : nd.f2 ≤ t.f2
                  · obtain ⟨p4, hp4⟩ : ∃ p4, Aside0 (p4 = if 0 ≤ nd.f3 then nd.f3 + -a else nd.f3) := ⟨_, ⟨rfl⟩⟩
                    have HC : Aside0 (cutN t x.f4 0 0 = (lp ++ [⟨nd.f0, nd.f1 + -t.f1, nd.f2 + -t.f1, p4⟩]) ++ cutN t (x.f4.drop (kk + 1)) a (kk + 1)) := ⟨by rw [HLP.out, hdr.out, cutN, if_neg hi1, if_pos hi2, List.append_assoc, hp4.out]; rfl⟩
                    go_wp2
                    have HS0 := (HS.alloc (.cells #[.string nd.f0, .int .i64 nd.f1, .int .i64 nd.f2, .int .i64 nd.f3] 74)).drew
                    have hbx := blk_drew (blk_new W4 (.cells #[.string nd.f0, .int .i64 nd.f1, .int .i64 nd.f2, .int .i64 nd.f3] 74))
                    have HR0 := Kd.R_below HR.out (below_alloc (Below.refl _ _) (.cells #[.string nd.f0, .int .i64 nd.f1, .int .i64 nd.f2, .int .i64 nd.f3] 74))
                    have HR0 := Kd.R_below HR0 (pw_below_drewN (Below.refl _ _) 1 : Below (W4.alloc (.cells #[.string nd.f0, .int .i64 nd.f1, .int .i64 nd.f2, .int .i64 nd.f3] 74)).heap.size (W4.alloc (.cells #[.string nd.f0, .int .i64 nd.f1, .int .i64 nd.f2, .int .i64 nd.f3] 74)) ((W4.alloc (.cells #[.string nd.f0, .int .i64 nd.f1, .int .i64 nd.f2, .int .i64 nd.f3] 74)).drewN 1))
                    have hTb := blk_drew (blk_alloc HX.t (.cells #[.string nd.f0, .int .i64 nd.f1, .int .i64 nd.f2, .int .i64 nd.f3] 74))
                    have hbase : ∀ b, (Value.slice Av lp.length cv).ownBlock = some b → W3.heap.size ≤ b := (Kd.R_own HR.out).elim fun _ h => own_base h
                    have hown : ∀ b, (Value.slice Av lp.length cv).ownBlock = some b → b < W4.heap.size := (Kd.R_own HR.out).elim fun _ h => own_lt h
                    have hsz0 : W4.heap.size ≤ (W4.alloc (.cells #[.string nd.f0, .int .i64 nd.f1, .int .i64 nd.f2, .int .i64 nd.f3] 74)).drew.heap.size := (below_alloc (Below.refl W4.heap.size W4) (.cells #[.string nd.f0, .int .i64 nd.f1, .int .i64 nd.f2, .int .i64 nd.f3] 74)).size
                    have hn5 : Aside0 (IntKind.i64.wrap (nd.f1 + -t.f1) = nd.f1 + -t.f1) := ⟨IntWalk.i64_in _ (by omega)⟩
                    have hn6 : Aside0 (IntKind.i64.wrap (nd.f2 + -t.f1) = nd.f2 + -t.f1) := ⟨IntWalk.i64_in _ (by omega)⟩
                    have hn7 : Aside0 (0 ≤ nd.f3 → IntKind.i64.wrap (nd.f3 + -a) = nd.f3 + -a) := ⟨fun _ => IntWalk.i64_in _ (by omega)⟩
                    have nW2 : Aside0 (Go.RowKit.wrap64 (-a) = -a) := ⟨by rw [← i64_w]; exact IntWalk.i64_in _ (by omega)⟩
                    have hgRd : W3.heap.size ≤ W4.heap.size := hsz
                    have hgRo : (Value.slice Av lp.length cv).ownBlock ≠ some W4.heap.size := fun e => by have := hown _ e; omega
                    change Kd.R _ _ (W4.alloc (.cells #[.string nd.f0, .int .i64 nd.f1, .int .i64 nd.f2, .int .i64 nd.f3] 74)).drew _ _ _ _ at HR0
                    have hgTU : gT < (W4.alloc (.cells #[.string nd.f0, .int .i64 nd.f1, .int .i64 nd.f2, .int .i64 nd.f3] 74)).drew.heap.size := blk_lt hTb
                    have hgRU : W4.heap.size < (W4.alloc (.cells #[.string nd.f0, .int .i64 nd.f1, .int .i64 nd.f2, .int .i64 nd.f3] 74)).drew.heap.size := blk_lt hbx
                    refine start_ (n := 13) (S := fun w' => w'.cell? ⟨gd, 4, none⟩ = some (.slice Av lp.length cv) ∧ w'.cell? ⟨W4.heap.size, 0, none⟩ = some (.string nd.f0) ∧ w'.cell? ⟨W4.heap.size, 1, none⟩ = some (.int .i64 nd.f1) ∧ w'.cell? ⟨W4.heap.size, 2, none⟩ = some (.int .i64 nd.f2) ∧ w'.cell? ⟨W4.heap.size, 3, none⟩ = some (.int .i64 nd.f3) ∧ w'.cell? ⟨gT, 1, none⟩ = some (.int .i64 t.f1)) (ds := [12]) #[false, false, false, false, false, false, false, false, false, false, false, false, false] (by kernel_rfl) rfl rfl ⟨(blk_cell HS0.d 4).trans rfl, (blk_cell hbx 0).trans rfl, (blk_cell hbx 1).trans rfl, (blk_cell hbx 2).trans rfl, (blk_cell hbx 3).trans rfl, (blk_cell hTb 1).trans rfl⟩ (fun hHeld => ?_)
                    generalize (W4.alloc (.cells #[.string nd.f0, .int .i64 nd.f1, .int .i64 nd.f2, .int .i64 nd.f3] 74)).drew = U0 at HS0 HR0 hsz0 hHeld hbx hTb hgTU hgRU ⊢
                    generalize hgR : W4.heap.size = gR at hbx hgRo hgRd hgRU hown hsz0 hHeld ⊢
                    refine pure_ (i := 0) (N := some 116) (v := ?_) (a' := ?_) #[true, false, false, false, false, false, false, false, false, false, false, false, false] rfl rfl (by kernel_rfl) (fun _ _ _ h => h) (Or.inl ⟨by rfl, ?_⟩) ?_ ?_
                    rotate_left
                    · intro w'
                      go_simp
                      with_reducible rfl
                    rotate_left
                    · simp only [Act.put, List.setIfInBounds_toArray, List.set_cons_zero, List.set_cons_succ]
                      rfl
                    refine pure_ (i := 3) (N := some 119) (v := ?_) (a' := ?_) #[true, false, false, true, false, false, false, false, false, false, false, false, false] rfl rfl (by kernel_rfl) (fun _ _ _ h => h) (Or.inl ⟨by rfl, ?_⟩) ?_ ?_
                    rotate_left
                    · intro w'
                      go_simp
                      with_reducible rfl
                    rotate_left
                    · simp only [Act.put, List.setIfInBounds_toArray, List.set_cons_zero, List.set_cons_succ]
                      rfl
                    refine pure_ (i := 6) (N := some 122) (v := ?_) (a' := ?_) #[true, false, false, true, false, false, true, false, false, false, false, false, false] rfl rfl (by kernel_rfl) (fun _ _ _ h => h) (Or.inl ⟨by rfl, ?_⟩) ?_ ?_
                    rotate_left
                    · intro w'
                      go_simp
                      with_reducible rfl
                    rotate_left
                    · simp only [Act.put, List.setIfInBounds_toArray, List.set_cons_zero, List.set_cons_succ]
                      rfl
                    refine pure_ (i := 7) (N := some 123) (v := ?_) (a' := ?_) #[true, false, false, true, false, false, true, true, false, false, false, false, false] rfl rfl (by kernel_rfl) (fun _ _ _ h => h) (Or.inl ⟨by rfl, ?_⟩) ?_ ?_
                    rotate_left
                    · intro w'
                      go_simp
                      with_reducible rfl
                    rotate_left
                    · simp only [Act.put, List.setIfInBounds_toArray, List.set_cons_zero, List.set_cons_succ, i64_w, nW2.out]
                      rfl
                    refine take_ (i := 1) (N := some 117) (v := ?_) (a' := ?_) #[true, true, false, true, false, false, true, true, false, false, false, false, false] rfl rfl (by kernel_rfl) (fun _ _ _ h => h) (Or.inl ⟨by rfl, ?_⟩) hHeld ?_ ?_
                    rotate_left
                    · rintro w' ⟨s0, s1, s2, s3, s4, s5⟩
                      go_simp
                      with_reducible rfl
                    rotate_left
                    · simp only [Act.put, List.setIfInBounds_toArray, List.set_cons_zero, List.set_cons_succ]
                      rfl
                    refine take_ (i := 2) (N := some 118) (v := ?_) (a' := ?_) #[true, true, true, true, false, false, true, true, false, false, false, false, false] rfl rfl (by kernel_rfl) (fun _ _ _ h => h) (Or.inl ⟨by rfl, ?_⟩) hHeld ?_ ?_
                    rotate_left
                    · rintro w' ⟨s0, s1, s2, s3, s4, s5⟩
                      go_simp
                      with_reducible rfl
                    rotate_left
                    · simp only [Act.put, List.setIfInBounds_toArray, List.set_cons_zero, List.set_cons_succ]
                      rfl
                    refine take_ (i := 4) (N := some 120) (v := ?_) (a' := ?_) #[true, true, true, true, true, false, true, true, false, false, false, false, false] rfl rfl (by kernel_rfl) (fun _ _ _ h => h) (Or.inl ⟨by rfl, ?_⟩) hHeld ?_ ?_
                    rotate_left
                    · rintro w' ⟨s0, s1, s2, s3, s4, s5⟩
                      go_simp
                      with_reducible rfl
                    rotate_left
                    · simp only [Act.put, List.setIfInBounds_toArray, List.set_cons_zero, List.set_cons_succ]
                      rfl
                    refine pure_ (i := 5) (N := some 121) (v := ?_) (a' := ?_) #[true, true, true, true, true, true, true, true, false, false, false, false, false] rfl rfl (by kernel_rfl) (fun _ _ _ h => h) (Or.inl ⟨by rfl, ?_⟩) ?_ ?_
                    rotate_left
                    · intro w'
                      go_simp
                      with_reducible rfl
                    rotate_left
                    · simp only [Act.put, List.setIfInBounds_toArray, List.set_cons_zero, List.set_cons_succ, i64_w, nW1.out]
                      rfl
                    refine one_ (i := 8) (N := some 124) #[true, true, true, true, true, true, true, true, true, false, false, false, false] rfl rfl (by kernel_rfl) (by decide) (fun K hK => ?_)
                    refine goes_ Try.func55 (by kernel_rfl) rfl #[.agg #[.string nd.f0, .int .i64 nd.f1, .int .i64 nd.f2, .int .i64 nd.f3], .int .i64 (-t.f1), .int .i64 (-a)] (by rfl) rfl rfl (by simp only [List.map_toArray, List.map_cons, List.map_nil]; rfl) ?_
                    have hcn := copyNode_calls nd (-t.f1) (-a) U0 hn5.out hn6.out hn7.out
                    rw [← hp4.out] at hcn
                    with_reducible refine (hcn).mono ?_
                    rintro e u8 ⟨rfl, hb⟩
                    have HS6 := HS0.step hb
                    have HR6 := Kd.R_below HR0 hb
                    have hbx6 := blk_below hbx hb
                    have hTb6 := blk_below hTb hb
                    have sz6 := hb.size
                    clear hb
                    refine ⟨_, rfl, ?_⟩
                    refine hK.out _ _ ⟨(blk_cell HS6.d 4).trans rfl, (blk_cell hbx6 0).trans rfl, (blk_cell hbx6 1).trans rfl, (blk_cell hbx6 2).trans rfl, (blk_cell hbx6 3).trans rfl, (blk_cell hTb6 1).trans rfl⟩ (fun hHeld => ?_)
                    clear hK K
                    refine norm_ (a' := ?_) ?_ ?_
                    rotate_left
                    · show Act.put _ (some 124) _ = _
                      simp only [Act.put, List.setIfInBounds_toArray, List.set_cons_zero, List.set_cons_succ]
                      rfl
                    refine one_ (i := 9) (N := some 125) #[true, true, true, true, true, true, true, true, true, true, false, false, false] rfl rfl (by kernel_rfl) (by decide) (fun K hK => ?_)
                    refine value_ (w1 := ?_) (v := ?_) (by rfl) rfl ?_ ?_
                    rotate_left 2
                    · go_simp
                      constructor
                      · rfl
                      · rfl
                    change K _ (u8.alloc (.cells #[.string nd.f0, .int .i64 (nd.f1 + -t.f1), .int .i64 (nd.f2 + -t.f1), .int .i64 p4] 74))
                    refine hK.out _ _ ⟨(blk_cell (HS6.alloc _).d 4).trans rfl, (blk_cell (blk_alloc hbx6 _) 0).trans rfl, (blk_cell (blk_alloc hbx6 _) 1).trans rfl, (blk_cell (blk_alloc hbx6 _) 2).trans rfl, (blk_cell (blk_alloc hbx6 _) 3).trans rfl, (blk_cell (blk_alloc hTb6 _) 1).trans rfl⟩ (fun hHeld => ?_)
                    clear hK K
                    refine norm_ (a' := ?_) ?_ ?_
                    rotate_left
                    · show Act.put _ (some 125) _ = _
                      simp only [Act.put, List.setIfInBounds_toArray, List.set_cons_zero, List.set_cons_succ]
                      rfl
                    refine one_ (i := 10) (N := some 126) #[true, true, true, true, true, true, true, true, true, true, true, false, false] rfl rfl (by kernel_rfl) (by decide) (fun K hK => ?_)
                    refine Kd.R_append_step k74 (w0 := u8) (W := u8) W3.heap.size rfl (.tmp 117) (.tmp 125) 26 74 _ 40 rfl Try.underlying26 info74 rfl (by decide) (by decide) (.slice Av lp.length cv) lp (⟨nd.f0, nd.f1 + -t.f1, nd.f2 + -t.f1, p4⟩ : S74) [.string nd.f0, .int .i64 (nd.f1 + -t.f1), .int .i64 (nd.f2 + -t.f1), .int .i64 p4] (fun b => b ≠ gd) (fun b => b ≠ gd ∧ some b ≠ (Value.slice Av lp.length cv).ownBlock) rfl rfl (k74_mkM _ _ _ (⟨nd.f0, nd.f1 + -t.f1, nd.f2 + -t.f1, p4⟩ : S74)) (fun _ h => h) (fun b hb => by omega) HR6 (Below.refl _ _) (by omega) (by have := HLL.out; omega) ?_
                    intro v8 u10 hR8 _ hg8 _
                    generalize hlq : lp ++ [(⟨nd.f0, nd.f1 + -t.f1, nd.f2 + -t.f1, p4⟩ : S74)] = lq at hR8
                    replace hlq := Aside0.mk hlq
                    obtain ⟨A8e, c8e, rfl⟩ := Kd.R_slice hR8
                    have HS8 := HS6.grown hg8 hbase hWs3 hgdW3
                    have hbx8 := (hg8.block gR (by omega) (fun e => hgRo e.symm)).trans hbx6
                    have hTb8 := (hg8.block gT (by omega) (fun e => by have := hbase gT e.symm; omega)).trans hTb6
                    refine hK.out _ _ ⟨(blk_cell HS8.d 4).trans rfl, (blk_cell hbx8 0).trans rfl, (blk_cell hbx8 1).trans rfl, (blk_cell hbx8 2).trans rfl, (blk_cell hbx8 3).trans rfl, (blk_cell hTb8 1).trans rfl⟩ (fun hHeld => ?_)
                    clear hK K
                    refine norm_ (a' := ?_) ?_ ?_
                    rotate_left
                    · show Act.put _ (some 126) _ = _
                      simp only [Act.put, List.setIfInBounds_toArray, List.set_cons_zero, List.set_cons_succ]
                      rfl
                    refine pure_ (i := 11) (N := some 127) (v := ?_) (a' := ?_) #[true, true, true, true, true, true, true, true, true, true, true, true, false] rfl rfl (by kernel_rfl) (fun _ _ _ h => h) (Or.inl ⟨by rfl, ?_⟩) ?_ ?_
                    rotate_left
                    · intro w'
                      go_simp
                      with_reducible rfl
                    rotate_left
                    · simp only [Act.put, List.setIfInBounds_toArray, List.set_cons_zero, List.set_cons_succ]
                      rfl
                    refine last_ (i := 12) (N := none) #[true, true, true, true, true, true, true, true, true, true, true, true, true] rfl rfl (by kernel_rfl) (by decide) (fun K hK => ?_)
                    have zc := (blk_cell HS8.d 4).trans rfl
                    have zf := blk_frozen HS8.d 4
                    refine skip_ (w1 := ?_) (by rfl) rfl ?_ ?_
                    rotate_left
                    · go_simp
                      rfl
                    refine hK.out _ _ ?_
                    clear hK K
                    refine done_ (by kernel_rfl) ?_
                    go_wp2_with fail
                    exact ⟨⟨kk + 1, a, lq, A8e, c8e, by omega, rfl, by go_num, by omega, by omega, ⟨by rw [← hlq.out]; exact HC.out⟩, ⟨by have := HLL.out; rw [← hlq.out, List.length_append, List.length_singleton]; omega⟩, HS8.put (by omega) 4 _ rfl, ⟨Kd.R_far (p := ⟨gd, 4, none⟩) hR8 (fun _ h => h) _⟩⟩, by simp [intOf]; omega⟩
                  · have HC : Aside0 (cutN t x.f4 0 0 = lp ++ cutN t (x.f4.drop (kk + 1)) a (kk + 1)) := ⟨by rw [HLP.out, hdr.out, cutN, if_neg hi1, if_neg hi2]⟩
                    go_wp2
                    go_roundw
                    case rel => exact ⟨kk + 1, a, lp, Av, cv, by omega, rfl, by go_num, by omega, by omega, HC, ⟨by have := HLL.out; omega⟩, HS.alloc _, ⟨Kd.R_below HR.out (below_alloc (Below.refl _ _) _)⟩⟩
                    case measure => simp [intOf]; omega
              · obtain rfl : kk = x.f4.length := by omega
                have HLP' : lp = cutN t x.f4 0 0 := by
                  have h : cutN t x.f4 0 0 = lp ++ [] := by have h := HLP.out; rwa [List.drop_eq_nil_of_le (Nat.le_refl _)] at h
                  rw [List.append_nil] at h; exact h.symm
                subst HLP'
                have r4 := HR.out
                replace r1 := Kd.R_keep r1 HS.kp (fun _ h => h)
                replace r2 := Kd.R_keep r2 HS.kp (fun _ h => h)
                replace r8 := Kd.R_keep r8 HS.kp (fun _ h => h)
                replace r3 := Kd.R_keep r3 HS.kp (fun _ h => h)
                have X4 := HX
                have dz4 := HS.d
                have hWs4 : w.heap.size ≤ W4.heap.size := HS.be.size
                have hgdW4 : gd < W4.heap.size := blk_lt dz4
                clear HR HLP HLL
                generalize hLN : cutN t x.f4 0 0 = L4 at *
                generalize Av = Av4 at *
                generalize cv = cv4 at *
                have hM1' := hM1.out
                have HHD := Aside0.mk (heads_ok (fun u hu => by have := texts_in HV.out.2.2.1 u hu; exact ⟨this.1, this.2.2.1⟩) HV.out.2.2.2.2.2)
                clear hM1'
                have HG5 : Aside0 ((Kd.int .i64).C w A5 x.f5.length x.f5) := ⟨g5⟩
                have HG6 : Aside0 (Kd.string.C w A6 x.f6.length x.f6) := ⟨g6⟩
                go_wp2
                have HS := St.refl X4 dz4
                by_cases h50 : x.f5.length = 0
                · have hq5 : ((x.f5.length : Int) == 0) = true := by rw [beq_iff_eq]; omega
                  have HE5 : Aside0 (hasH x t = false) := ⟨by simp [hasH, h50]⟩
                  clear h50
                  have X := X4.drew
                  have HS := HS.drew
                  have hbd : Below W4.heap.size W4 W4.drew := pw_below_drewN (Below.refl _ _) 1
                  refine start_ (n := 21) (S := fun w' => w'.cell? ⟨w.heap.size, 5, none⟩ = some (.slice A5 x.f5.length c5)) (ds := []) #[false, false, false, false, false, false, false, false, false, false, false, false, false, false, false, false, false, false, false, false, false] (by kernel_rfl) rfl rfl ((blk_cell X.c 5).trans rfl) (fun hHeld => ?_)
                  generalize W4.drew = U0 at X HS hbd hHeld ⊢
                  refine pure_ (i := 0) (N := some 129) (v := ?_) (a' := ?_) #[true, false, false, false, false, false, false, false, false, false, false, false, false, false, false, false, false, false, false, false, false] rfl rfl (by kernel_rfl) (fun _ _ _ h => h) (Or.inl ⟨by rfl, ?_⟩) ?_ ?_
                  rotate_left
                  · intro w'
                    go_simp
                    with_reducible rfl
                  rotate_left
                  · simp only [Act.put, List.setIfInBounds_toArray, List.set_cons_zero, List.set_cons_succ]
                    rfl
                  refine take_ (i := 1) (N := some 130) (v := ?_) (a' := ?_) #[true, true, false, false, false, false, false, false, false, false, false, false, false, false, false, false, false, false, false, false, false] rfl rfl (by kernel_rfl) (fun _ _ _ h => h) (Or.inl ⟨by rfl, ?_⟩) hHeld ?_ ?_
                  rotate_left
                  · intro w' s0
                    go_simp
                    with_reducible rfl
                  rotate_left
                  · simp only [Act.put, List.setIfInBounds_toArray, List.set_cons_zero, List.set_cons_succ]
                    rfl
                  refine pure_ (i := 2) (N := some 131) (v := ?_) (a' := ?_) #[true, true, true, false, false, false, false, false, false, false, false, false, false, false, false, false, false, false, false, false, false] rfl rfl (by kernel_rfl) (fun _ _ _ h => h) (Or.inl ⟨by rfl, ?_⟩) ?_ ?_
                  rotate_left
                  · intro w'
                    go_simp
                    with_reducible rfl
                  rotate_left
                  · simp only [Act.put, List.setIfInBounds_toArray, List.set_cons_zero, List.set_cons_succ]
                    rfl
                  refine pure_ (i := 3) (N := some 132) (v := ?_) (a' := ?_) #[true, true, true, true, false, false, false, false, false, false, false, false, false, false, false, false, false, false, false, false, false] rfl rfl (by kernel_rfl) (fun _ _ _ h => h) (Or.inl ⟨by rfl, ?_⟩) ?_ ?_
                  rotate_left
                  · intro w'
                    go_simp
                    with_reducible rfl
                  rotate_left
                  · simp only [Act.put, List.setIfInBounds_toArray, List.set_cons_zero, List.set_cons_succ]
                    rfl
                  refine pure_ (i := 4) (N := some 133) (v := ?_) (a' := ?_) #[true, true, true, true, true, false, false, false, false, false, false, false, false, false, false, false, false, false, false, false, false] rfl rfl (by kernel_rfl) (fun _ _ _ h => h) (Or.inl ⟨by rfl, ?_⟩) ?_ ?_
                  rotate_left
                  · intro w'
                    go_simp
                    with_reducible rfl
                  rotate_left
                  · simp only [Act.put, List.setIfInBounds_toArray, List.set_cons_zero, List.set_cons_succ]
                    rfl
                  refine pure_ (i := 5) (N := some 134) (v := undef) (a' := ?_) #[true, true, true, true, true, true, false, false, false, false, false, false, false, false, false, false, false, false, false, false, false] rfl rfl (by kernel_rfl) (fun _ _ _ h => h) (Or.inr ⟨by rfl, rfl⟩) ?_ ?_
                  rotate_left
                  · simp only [Act.put, List.setIfInBounds_toArray, List.set_cons_zero, List.set_cons_succ]
                    rfl
                  refine pure_ (i := 6) (N := some 135) (v := undef) (a' := ?_) #[true, true, true, true, true, true, true, false, false, false, false, false, false, false, false, false, false, false, false, false, false] rfl rfl (by kernel_rfl) (fun _ _ _ h => h) (Or.inr ⟨by rfl, rfl⟩) ?_ ?_
                  rotate_left
                  · simp only [Act.put, List.setIfInBounds_toArray, List.set_cons_zero, List.set_cons_succ]
                    rfl
                  refine pure_ (i := 7) (N := some 136) (v := undef) (a' := ?_) #[true, true, true, true, true, true, true, true, false, false, false, false, false, false, false, false, false, false, false, false, false] rfl rfl (by kernel_rfl) (fun _ _ _ h => h) (Or.inr ⟨by rfl, rfl⟩) ?_ ?_
                  rotate_left
                  · simp only [Act.put, List.setIfInBounds_toArray, List.set_cons_zero, List.set_cons_succ]
                    rfl
                  refine pure_ (i := 8) (N := some 137) (v := undef) (a' := ?_) #[true, true, true, true, true, true, true, true, true, false, false, false, false, false, false, false, false, false, false, false, false] rfl rfl (by kernel_rfl) (fun _ _ _ h => h) (Or.inr ⟨by rfl, rfl⟩) ?_ ?_
                  rotate_left
                  · simp only [Act.put, List.setIfInBounds_toArray, List.set_cons_zero, List.set_cons_succ]
                    rfl
                  refine pure_ (i := 9) (N := some 138) (v := undef) (a' := ?_) #[true, true, true, true, true, true, true, true, true, true, false, false, false, false, false, false, false, false, false, false, false] rfl rfl (by kernel_rfl) (fun _ _ _ h => h) (Or.inr ⟨by rfl, rfl⟩) ?_ ?_
                  rotate_left
                  · simp only [Act.put, List.setIfInBounds_toArray, List.set_cons_zero, List.set_cons_succ]
                    rfl
                  refine pure_ (i := 10) (N := some 139) (v := undef) (a' := ?_) #[true, true, true, true, true, true, true, true, true, true, true, false, false, false, false, false, false, false, false, false, false] rfl rfl (by kernel_rfl) (fun _ _ _ h => h) (Or.inr ⟨by rfl, rfl⟩) ?_ ?_
                  rotate_left
                  · simp only [Act.put, List.setIfInBounds_toArray, List.set_cons_zero, List.set_cons_succ]
                    rfl
                  refine pure_ (i := 11) (N := some 140) (v := undef) (a' := ?_) #[true, true, true, true, true, true, true, true, true, true, true, true, false, false, false, false, false, false, false, false, false] rfl rfl (by kernel_rfl) (fun _ _ _ h => h) (Or.inr ⟨by rfl, rfl⟩) ?_ ?_
                  rotate_left
                  · simp only [Act.put, List.setIfInBounds_toArray, List.set_cons_zero, List.set_cons_succ]
                    rfl
                  refine pure_ (i := 12) (N := some 141) (v := undef) (a' := ?_) #[true, true, true, true, true, true, true, true, true, true, true, true, true, false, false, false, false, false, false, false, false] rfl rfl (by kernel_rfl) (fun _ _ _ h => h) (Or.inr ⟨by rfl, rfl⟩) ?_ ?_
                  rotate_left
                  · simp only [Act.put, List.setIfInBounds_toArray, List.set_cons_zero, List.set_cons_succ]
                    rfl
                  refine pure_ (i := 13) (N := some 142) (v := undef) (a' := ?_) #[true, true, true, true, true, true, true, true, true, true, true, true, true, true, false, false, false, false, false, false, false] rfl rfl (by kernel_rfl) (fun _ _ _ h => h) (Or.inr ⟨by rfl, rfl⟩) ?_ ?_
                  rotate_left
                  · simp only [Act.put, List.setIfInBounds_toArray, List.set_cons_zero, List.set_cons_succ]
                    rfl
                  refine pure_ (i := 14) (N := some 143) (v := undef) (a' := ?_) #[true, true, true, true, true, true, true, true, true, true, true, true, true, true, true, false, false, false, false, false, false] rfl rfl (by kernel_rfl) (fun _ _ _ h => h) (Or.inr ⟨by rfl, rfl⟩) ?_ ?_
                  rotate_left
                  · simp only [Act.put, List.setIfInBounds_toArray, List.set_cons_zero, List.set_cons_succ]
                    rfl
                  refine pure_ (i := 15) (N := some 144) (v := undef) (a' := ?_) #[true, true, true, true, true, true, true, true, true, true, true, true, true, true, true, true, false, false, false, false, false] rfl rfl (by kernel_rfl) (fun _ _ _ h => h) (Or.inr ⟨by rfl, rfl⟩) ?_ ?_
                  rotate_left
                  · simp only [Act.put, List.setIfInBounds_toArray, List.set_cons_zero, List.set_cons_succ]
                    rfl
                  refine pure_ (i := 16) (N := some 145) (v := undef) (a' := ?_) #[true, true, true, true, true, true, true, true, true, true, true, true, true, true, true, true, true, false, false, false, false] rfl rfl (by kernel_rfl) (fun _ _ _ h => h) (Or.inr ⟨by rfl, rfl⟩) ?_ ?_
                  rotate_left
                  · simp only [Act.put, List.setIfInBounds_toArray, List.set_cons_zero, List.set_cons_succ]
                    rfl
                  refine pure_ (i := 17) (N := some 146) (v := undef) (a' := ?_) #[true, true, true, true, true, true, true, true, true, true, true, true, true, true, true, true, true, true, false, false, false] rfl rfl (by kernel_rfl) (fun _ _ _ h => h) (Or.inr ⟨by rfl, rfl⟩) ?_ ?_
                  rotate_left
                  · simp only [Act.put, List.setIfInBounds_toArray, List.set_cons_zero, List.set_cons_succ]
                    rfl
                  refine pure_ (i := 18) (N := some 147) (v := undef) (a' := ?_) #[true, true, true, true, true, true, true, true, true, true, true, true, true, true, true, true, true, true, true, false, false] rfl rfl (by kernel_rfl) (fun _ _ _ h => h) (Or.inr ⟨by rfl, rfl⟩) ?_ ?_
                  rotate_left
                  · simp only [Act.put, List.setIfInBounds_toArray, List.set_cons_zero, List.set_cons_succ]
                    rfl
                  refine pure_ (i := 19) (N := some 148) (v := undef) (a' := ?_) #[true, true, true, true, true, true, true, true, true, true, true, true, true, true, true, true, true, true, true, true, false] rfl rfl (by kernel_rfl) (fun _ _ _ h => h) (Or.inr ⟨by rfl, rfl⟩) ?_ ?_
                  rotate_left
                  · simp only [Act.put, List.setIfInBounds_toArray, List.set_cons_zero, List.set_cons_succ]
                    rfl
                  refine pure_ (i := 20) (N := some 149) (v := ?_) (a' := ?_) #[true, true, true, true, true, true, true, true, true, true, true, true, true, true, true, true, true, true, true, true, true] rfl rfl (by kernel_rfl) (fun _ _ _ h => h) (Or.inl ⟨by rfl, ?_⟩) ?_ ?_
                  rotate_left
                  · intro w'
                    go_simp
                    with_reducible rfl
                  rotate_left
                  · simp only [Act.put, List.setIfInBounds_toArray, List.set_cons_zero, List.set_cons_succ]
                    rfl
                  refine done_ (by kernel_rfl) ?_
                  have z0 := (blk_cell HS.d 0).trans rfl
                  have z1 := (blk_cell HS.d 1).trans rfl
                  have z2 := (blk_cell HS.d 2).trans rfl
                  have z3 := (blk_cell HS.d 3).trans rfl
                  have z4 := (blk_cell HS.d 4).trans rfl
                  have z5 := (blk_cell HS.d 5).trans rfl
                  have z6 := (blk_cell HS.d 6).trans rfl
                  have zr0 := (blk_cell X.r 0).trans rfl
                  have zr1 := (blk_cell X.r 1).trans rfl
                  have zr2 := (blk_cell X.r 2).trans rfl
                  have zr3 := (blk_cell X.r 3).trans rfl
                  have zr4 := (blk_cell X.r 4).trans rfl
                  have zr5 := (blk_cell X.r 5).trans rfl
                  have zr6 := (blk_cell X.r 6).trans rfl
                  have zf0 := blk_frozen X.r 0
                  have zf1 := blk_frozen X.r 1
                  have zf2 := blk_frozen X.r 2
                  have zf3 := blk_frozen X.r 3
                  have zf4 := blk_frozen X.r 4
                  have zf5 := blk_frozen X.r 5
                  have zf6 := blk_frozen X.r 6
                  go_wp2
                  clear z0 z1 z2 z3 z4 z5 z6 zr0 zr1 zr2 zr3 zr4 zr5 zr6 zf0 zf1 zf2 zf3 zf4 zf5 zf6
                  have hzr := put7_blk X.r (.slice A2 x.f0.length cc2) (.slice Av1 M1.length cv1) (.slice (some ⟨g8, 0, none⟩) 1 1) (.slice Av3 L3.length cv3) (.slice Av4 L4.length cv4) (.slice none 0 0) (.slice none 0 0)
                  have hwr := put7_below (g := w.heap.size + 1) X.be (by omega) (.slice A2 x.f0.length cc2) (.slice Av1 M1.length cv1) (.slice (some ⟨g8, 0, none⟩) 1 1) (.slice Av3 L3.length cv3) (.slice Av4 L4.length cv4) (.slice none 0 0) (.slice none 0 0)
                  refine bodyPost_ret (results_ct rfl _ (put7 U0 (w.heap.size + 1) (.slice A2 x.f0.length cc2) (.slice Av1 M1.length cv1) (.slice (some ⟨g8, 0, none⟩) 1 1) (.slice Av3 L3.length cv3) (.slice Av4 L4.length cv4) (.slice none 0 0) (.slice none 0 0)) (w.heap.size + 1) 30 #[.slice A2 x.f0.length cc2, .slice Av1 M1.length cv1, .slice (some ⟨g8, 0, none⟩) 1 1, .slice Av3 L3.length cv3, .slice Av4 L4.length cv4, .slice none 0 0, .slice none 0 0] (0, 0) _ rfl hzr Try.underlying30 rfl (by kernel_rfl)) rfl ?_
                  refine ⟨[.slice A2 x.f0.length cc2, .slice Av1 M1.length cv1, .slice (some ⟨g8, 0, none⟩) 1 1, .slice Av3 L3.length cv3, .slice Av4 L4.length cv4, .slice none 0 0, .slice none 0 0], ?_, ?_, hwr⟩
                  · rw [HE.out]; rfl
                  · have hcx : cutX x t = ⟨x.f0, M1, [shiftT t (-t.f1)], L3, L4, [], []⟩ := by rw [cutX, hM1.out, hLC, hLN, HE5.out]; rfl
                    rw [HO.out, hcx]
                    exact K_fin (y := ⟨x.f0, M1, [shiftT t (-t.f1)], L3, L4, [], []⟩) (R_fin r2 hbd (by omega) (.slice A2 x.f0.length cc2) (.slice Av1 M1.length cv1) (.slice (some ⟨g8, 0, none⟩) 1 1) (.slice Av3 L3.length cv3) (.slice Av4 L4.length cv4) (.slice none 0 0) (.slice none 0 0)) (R_fin r1 hbd (by omega) (.slice A2 x.f0.length cc2) (.slice Av1 M1.length cv1) (.slice (some ⟨g8, 0, none⟩) 1 1) (.slice Av3 L3.length cv3) (.slice Av4 L4.length cv4) (.slice none 0 0) (.slice none 0 0)) (R_fin r8 hbd (by omega) (.slice A2 x.f0.length cc2) (.slice Av1 M1.length cv1) (.slice (some ⟨g8, 0, none⟩) 1 1) (.slice Av3 L3.length cv3) (.slice Av4 L4.length cv4) (.slice none 0 0) (.slice none 0 0)) (R_fin r3 hbd (by omega) (.slice A2 x.f0.length cc2) (.slice Av1 M1.length cv1) (.slice (some ⟨g8, 0, none⟩) 1 1) (.slice Av3 L3.length cv3) (.slice Av4 L4.length cv4) (.slice none 0 0) (.slice none 0 0)) (R_fin r4 hbd (by omega) (.slice A2 x.f0.length cc2) (.slice Av1 M1.length cv1) (.slice (some ⟨g8, 0, none⟩) 1 1) (.slice Av3 L3.length cv3) (.slice Av4 L4.length cv4) (.slice none 0 0) (.slice none 0 0)) (Kd.R_nil (Kd.int .i64) 3 _ 0 (fun _ => True)) (Kd.R_nil Kd.string 9 _ 0 (fun _ => True))
                · have hq5 : ((x.f5.length : Int) == 0) = false := by rw [beq_eq_false_iff_ne]; omega
                  have hl5 : x.f5.length = x.f1.length := HHD.out.2.1 (by omega)
                  have hl6 : x.f6.length = x.f1.length := HHD.out.1 ▸ hl5
                  have HL5 := Aside0.mk hl5
                  have HL6 := Aside0.mk hl6
                  have hc5 : t.f2 ≤ (c5 : Int) := by omega
                  have hc6 : t.f2 ≤ (c6 : Int) := by omega
                  have hne5 : ¬ c5 = t.f1.toNat := by omega
                  have hne6 : ¬ c6 = t.f1.toNat := by omega
                  obtain ⟨a5, rfl⟩ : ∃ a5, A5 = some a5 := by
                    obtain ⟨a5, _, e, _⟩ := Kd.C_get g5 0 0 (by omega) (by omega)
                    exact ⟨a5, e⟩
                  obtain ⟨a6, rfl⟩ : ∃ a6, A6 = some a6 := by
                    obtain ⟨a6, _, e, _⟩ := Kd.C_get g6 ByteArray.empty 0 (by omega) (by omega)
                    exact ⟨a6, e⟩
                  have gm5 := Kd.C_mid g5 (lo := t.f1.toNat) (hi := t.f2.toNat) (c := c5) (by omega) (by omega) (by omega)
                  rw [if_neg (by omega), show t.f1.toNat * (Kd.int .i64).sz = t.f1.toNat from Nat.mul_one _] at gm5
                  have gm6 := Kd.C_mid g6 (lo := t.f1.toNat) (hi := t.f2.toNat) (c := c6) (by omega) (by omega) (by omega)
                  rw [if_neg (by omega), show t.f1.toNat * Kd.string.sz = t.f1.toNat from Nat.mul_one _] at gm6
                  have HM5 : Aside0 ((Kd.int .i64).C w (some (a5.add t.f1.toNat)) (mid x.f5 t.f1 t.f2).length (mid x.f5 t.f1 t.f2)) := ⟨gm5⟩
                  have HM6 : Aside0 (Kd.string.C w (some (a6.add t.f1.toNat)) (mid x.f6 t.f1 t.f2).length (mid x.f6 t.f1 t.f2)) := ⟨gm6⟩
                  clear gm5 gm6
                  have HK5 : Aside0 ((mid x.f5 t.f1 t.f2).length = t.f2.toNat - t.f1.toNat) := ⟨by rw [mid, List.length_drop, List.length_take]; omega⟩
                  have HK6 : Aside0 ((mid x.f6 t.f1 t.f2).length = t.f2.toNat - t.f1.toNat) := ⟨by rw [mid, List.length_drop, List.length_take]; omega⟩
                  have H50 := Aside0.mk h50
                  clear hl5 hl6 h50
                  have X := X4.drew
                  have HS := HS.drew
                  have hbd : Below W4.heap.size W4 W4.drew := pw_below_drewN (Below.refl _ _) 1
                  cases hnh : noH (mid x.f5 t.f1 t.f2) (mid x.f6 t.f1 t.f2)
                  · have HE5 : Aside0 (hasH x t = true) := ⟨by simp [hasH, hnh, H50.out]⟩
                    refine start_ (n := 21) (S := fun w' => w'.cell? ⟨w.heap.size, 5, none⟩ = some (.slice (some a5) x.f5.length c5) ∧ w'.cell? ⟨gT, 1, none⟩ = some (.int .i64 t.f1) ∧ w'.cell? ⟨gT, 2, none⟩ = some (.int .i64 t.f2) ∧ w'.cell? ⟨w.heap.size, 6, none⟩ = some (.slice (some a6) x.f6.length c6)) (ds := []) #[false, false, false, false, false, false, false, false, false, false, false, false, false, false, false, false, false, false, false, false, false] (by kernel_rfl) rfl rfl ⟨(blk_cell X.c 5).trans rfl, (blk_cell X.t 1).trans rfl, (blk_cell X.t 2).trans rfl, (blk_cell X.c 6).trans rfl⟩ (fun hHeld => ?_)
                    generalize W4.drew = U0 at X HS hbd hHeld ⊢
                    refine pure_ (i := 0) (N := some 129) (v := ?_) (a' := ?_) #[true, false, false, false, false, false, false, false, false, false, false, false, false, false, false, false, false, false, false, false, false] rfl rfl (by kernel_rfl) (fun _ _ _ h => h) (Or.inl ⟨by rfl, ?_⟩) ?_ ?_
                    rotate_left
                    · intro w'
                      go_simp
                      with_reducible rfl
                    rotate_left
                    · simp only [Act.put, List.setIfInBounds_toArray, List.set_cons_zero, List.set_cons_succ]
                      rfl
                    refine take_ (i := 1) (N := some 130) (v := ?_) (a' := ?_) #[true, true, false, false, false, false, false, false, false, false, false, false, false, false, false, false, false, false, false, false, false] rfl rfl (by kernel_rfl) (fun _ _ _ h => h) (Or.inl ⟨by rfl, ?_⟩) hHeld ?_ ?_
                    rotate_left
                    · rintro w' ⟨s0, s1, s2, s3⟩
                      go_simp
                      with_reducible rfl
                    rotate_left
                    · simp only [Act.put, List.setIfInBounds_toArray, List.set_cons_zero, List.set_cons_succ]
                      rfl
                    refine pure_ (i := 2) (N := some 131) (v := ?_) (a' := ?_) #[true, true, true, false, false, false, false, false, false, false, false, false, false, false, false, false, false, false, false, false, false] rfl rfl (by kernel_rfl) (fun _ _ _ h => h) (Or.inl ⟨by rfl, ?_⟩) ?_ ?_
                    rotate_left
                    · intro w'
                      go_simp
                      with_reducible rfl
                    rotate_left
                    · simp only [Act.put, List.setIfInBounds_toArray, List.set_cons_zero, List.set_cons_succ]
                      rfl
                    refine pure_ (i := 3) (N := some 132) (v := ?_) (a' := ?_) #[true, true, true, true, false, false, false, false, false, false, false, false, false, false, false, false, false, false, false, false, false] rfl rfl (by kernel_rfl) (fun _ _ _ h => h) (Or.inl ⟨by rfl, ?_⟩) ?_ ?_
                    rotate_left
                    · intro w'
                      go_simp
                      with_reducible rfl
                    rotate_left
                    · simp only [Act.put, List.setIfInBounds_toArray, List.set_cons_zero, List.set_cons_succ]
                      rfl
                    refine pure_ (i := 4) (N := some 133) (v := ?_) (a' := ?_) #[true, true, true, true, true, false, false, false, false, false, false, false, false, false, false, false, false, false, false, false, false] rfl rfl (by kernel_rfl) (fun _ _ _ h => h) (Or.inl ⟨by rfl, ?_⟩) ?_ ?_
                    rotate_left
                    · intro w'
                      go_simp
                      with_reducible rfl
                    rotate_left
                    · simp only [Act.put, List.setIfInBounds_toArray, List.set_cons_zero, List.set_cons_succ]
                      rfl
                    refine pure_ (i := 5) (N := some 134) (v := ?_) (a' := ?_) #[true, true, true, true, true, true, false, false, false, false, false, false, false, false, false, false, false, false, false, false, false] rfl rfl (by kernel_rfl) (fun _ _ _ h => h) (Or.inl ⟨by rfl, ?_⟩) ?_ ?_
                    rotate_left
                    · intro w'
                      go_simp
                      with_reducible rfl
                    rotate_left
                    · simp only [Act.put, List.setIfInBounds_toArray, List.set_cons_zero, List.set_cons_succ]
                      rfl
                    refine pure_ (i := 7) (N := some 136) (v := ?_) (a' := ?_) #[true, true, true, true, true, true, false, true, false, false, false, false, false, false, false, false, false, false, false, false, false] rfl rfl (by kernel_rfl) (fun _ _ _ h => h) (Or.inl ⟨by rfl, ?_⟩) ?_ ?_
                    rotate_left
                    · intro w'
                      go_simp
                      with_reducible rfl
                    rotate_left
                    · simp only [Act.put, List.setIfInBounds_toArray, List.set_cons_zero, List.set_cons_succ]
                      rfl
                    refine pure_ (i := 9) (N := some 138) (v := ?_) (a' := ?_) #[true, true, true, true, true, true, false, true, false, true, false, false, false, false, false, false, false, false, false, false, false] rfl rfl (by kernel_rfl) (fun _ _ _ h => h) (Or.inl ⟨by rfl, ?_⟩) ?_ ?_
                    rotate_left
                    · intro w'
                      go_simp
                      with_reducible rfl
                    rotate_left
                    · simp only [Act.put, List.setIfInBounds_toArray, List.set_cons_zero, List.set_cons_succ]
                      rfl
                    refine pure_ (i := 12) (N := some 141) (v := ?_) (a' := ?_) #[true, true, true, true, true, true, false, true, false, true, false, false, true, false, false, false, false, false, false, false, false] rfl rfl (by kernel_rfl) (fun _ _ _ h => h) (Or.inl ⟨by rfl, ?_⟩) ?_ ?_
                    rotate_left
                    · intro w'
                      go_simp
                      with_reducible rfl
                    rotate_left
                    · simp only [Act.put, List.setIfInBounds_toArray, List.set_cons_zero, List.set_cons_succ]
                      rfl
                    refine pure_ (i := 14) (N := some 143) (v := ?_) (a' := ?_) #[true, true, true, true, true, true, false, true, false, true, false, false, true, false, true, false, false, false, false, false, false] rfl rfl (by kernel_rfl) (fun _ _ _ h => h) (Or.inl ⟨by rfl, ?_⟩) ?_ ?_
                    rotate_left
                    · intro w'
                      go_simp
                      with_reducible rfl
                    rotate_left
                    · simp only [Act.put, List.setIfInBounds_toArray, List.set_cons_zero, List.set_cons_succ]
                      rfl
                    refine pure_ (i := 16) (N := some 145) (v := ?_) (a' := ?_) #[true, true, true, true, true, true, false, true, false, true, false, false, true, false, true, false, true, false, false, false, false] rfl rfl (by kernel_rfl) (fun _ _ _ h => h) (Or.inl ⟨by rfl, ?_⟩) ?_ ?_
                    rotate_left
                    · intro w'
                      go_simp
                      with_reducible rfl
                    rotate_left
                    · simp only [Act.put, List.setIfInBounds_toArray, List.set_cons_zero, List.set_cons_succ]
                      rfl
                    refine take_ (i := 6) (N := some 135) (v := ?_) (a' := ?_) #[true, true, true, true, true, true, true, true, false, true, false, false, true, false, true, false, true, false, false, false, false] rfl rfl (by kernel_rfl) (fun _ _ _ h => h) (Or.inl ⟨by rfl, ?_⟩) hHeld ?_ ?_
                    rotate_left
                    · rintro w' ⟨s0, s1, s2, s3⟩
                      go_simp
                      with_reducible rfl
                    rotate_left
                    · simp only [Act.put, List.setIfInBounds_toArray, List.set_cons_zero, List.set_cons_succ]
                      rfl
                    refine take_ (i := 8) (N := some 137) (v := ?_) (a' := ?_) #[true, true, true, true, true, true, true, true, true, true, false, false, true, false, true, false, true, false, false, false, false] rfl rfl (by kernel_rfl) (fun _ _ _ h => h) (Or.inl ⟨by rfl, ?_⟩) hHeld ?_ ?_
                    rotate_left
                    · rintro w' ⟨s0, s1, s2, s3⟩
                      go_simp
                      with_reducible rfl
                    rotate_left
                    · simp only [Act.put, List.setIfInBounds_toArray, List.set_cons_zero, List.set_cons_succ]
                      rfl
                    refine take_ (i := 10) (N := some 139) (v := ?_) (a' := ?_) #[true, true, true, true, true, true, true, true, true, true, true, false, true, false, true, false, true, false, false, false, false] rfl rfl (by kernel_rfl) (fun _ _ _ h => h) (Or.inl ⟨by rfl, ?_⟩) hHeld ?_ ?_
                    rotate_left
                    · rintro w' ⟨s0, s1, s2, s3⟩
                      go_simp
                      with_reducible rfl
                    rotate_left
                    · simp only [Act.put, List.setIfInBounds_toArray, List.set_cons_zero, List.set_cons_succ]
                      rfl
                    refine pure_ (i := 11) (N := some 140) (v := ?_) (a' := ?_) #[true, true, true, true, true, true, true, true, true, true, true, true, true, false, true, false, true, false, false, false, false] rfl rfl (by kernel_rfl) (fun _ _ _ h => h) (Or.inl ⟨by rfl, ?_⟩) ?_ ?_
                    rotate_left
                    · intro w'
                      go_simp
                      with_reducible rfl
                    rotate_left
                    · simp only [Act.put, List.setIfInBounds_toArray, List.set_cons_zero, List.set_cons_succ]
                      rfl
                    refine take_ (i := 13) (N := some 142) (v := ?_) (a' := ?_) #[true, true, true, true, true, true, true, true, true, true, true, true, true, true, true, false, true, false, false, false, false] rfl rfl (by kernel_rfl) (fun _ _ _ h => h) (Or.inl ⟨by rfl, ?_⟩) hHeld ?_ ?_
                    rotate_left
                    · rintro w' ⟨s0, s1, s2, s3⟩
                      go_simp
                      with_reducible rfl
                    rotate_left
                    · simp only [Act.put, List.setIfInBounds_toArray, List.set_cons_zero, List.set_cons_succ]
                      rfl
                    refine take_ (i := 15) (N := some 144) (v := ?_) (a' := ?_) #[true, true, true, true, true, true, true, true, true, true, true, true, true, true, true, true, true, false, false, false, false] rfl rfl (by kernel_rfl) (fun _ _ _ h => h) (Or.inl ⟨by rfl, ?_⟩) hHeld ?_ ?_
                    rotate_left
                    · rintro w' ⟨s0, s1, s2, s3⟩
                      go_simp
                      with_reducible rfl
                    rotate_left
                    · simp only [Act.put, List.setIfInBounds_toArray, List.set_cons_zero, List.set_cons_succ]
                      rfl
                    refine take_ (i := 17) (N := some 146) (v := ?_) (a' := ?_) #[true, true, true, true, true, true, true, true, true, true, true, true, true, true, true, true, true, true, false, false, false] rfl rfl (by kernel_rfl) (fun _ _ _ h => h) (Or.inl ⟨by rfl, ?_⟩) hHeld ?_ ?_
                    rotate_left
                    · rintro w' ⟨s0, s1, s2, s3⟩
                      go_simp
                      with_reducible rfl
                    rotate_left
                    · simp only [Act.put, List.setIfInBounds_toArray, List.set_cons_zero, List.set_cons_succ]
                      rfl
                    refine pure_ (i := 18) (N := some 147) (v := ?_) (a' := ?_) #[true, true, true, true, true, true, true, true, true, true, true, true, true, true, true, true, true, true, true, false, false] rfl rfl (by kernel_rfl) (fun _ _ _ h => h) (Or.inl ⟨by rfl, ?_⟩) ?_ ?_
                    rotate_left
                    · intro w'
                      go_simp
                      with_reducible rfl
                    rotate_left
                    · simp only [Act.put, List.setIfInBounds_toArray, List.set_cons_zero, List.set_cons_succ]
                      rfl
                    refine one_ (i := 19) (N := some 148) #[true, true, true, true, true, true, true, true, true, true, true, true, true, true, true, true, true, true, true, true, false] rfl rfl (by kernel_rfl) (by decide) (fun K hK => ?_)
                    refine goes_ Try.func56 (by kernel_rfl) rfl #[.slice (some (a5.add t.f1.toNat)) (t.f2.toNat - t.f1.toNat) (c5 - t.f1.toNat), .slice (some (a6.add t.f1.toNat)) (t.f2.toNat - t.f1.toNat) (c6 - t.f1.toNat)] (by rfl) rfl rfl (by simp only [List.map_toArray, List.map_cons, List.map_nil]; rfl) ?_
                    have hcn := noHeads_calls (some (a5.add t.f1.toNat)) (some (a6.add t.f1.toNat)) (c5 - t.f1.toNat) (c6 - t.f1.toNat) (mid x.f5 t.f1 t.f2) (mid x.f6 t.f1 t.f2) U0 (Kd.C_below HM5.out X.be) (Kd.C_below HM6.out X.be) (by rw [HK5.out, HK6.out]; exact Nat.le_refl _)
                    rw [HK5.out, HK6.out, hnh] at hcn
                    with_reducible refine (hcn).mono ?_
                    rintro e u19 ⟨rfl, rfl⟩
                    refine ⟨_, rfl, ?_⟩
                    refine hK.out _ _ ⟨(blk_cell X.c 5).trans rfl, (blk_cell X.t 1).trans rfl, (blk_cell X.t 2).trans rfl, (blk_cell X.c 6).trans rfl⟩ (fun hHeld => ?_)
                    clear hK K
                    refine norm_ (a' := ?_) ?_ ?_
                    rotate_left
                    · show Act.put _ (some 148) _ = _
                      simp only [Act.put, List.setIfInBounds_toArray, List.set_cons_zero, List.set_cons_succ]
                      rfl
                    refine pure_ (i := 20) (N := some 149) (v := ?_) (a' := ?_) #[true, true, true, true, true, true, true, true, true, true, true, true, true, true, true, true, true, true, true, true, true] rfl rfl (by kernel_rfl) (fun _ _ _ h => h) (Or.inl ⟨by rfl, ?_⟩) ?_ ?_
                    rotate_left
                    · intro w'
                      go_simp
                      with_reducible rfl
                    rotate_left
                    · simp only [Act.put, List.setIfInBounds_toArray, List.set_cons_zero, List.set_cons_succ]
                      rfl
                    refine done_ (by kernel_rfl) ?_
                    have HL7 : Aside0 (x.f5.length = x.f6.length) := ⟨HL5.out.trans HL6.out.symm⟩
                    have hb56 : x.f1.length ≤ 4096 := hnT
                    have hy11 := (blk_cell X.t 1).trans rfl
                    go_wp2
                    replace r1 := Kd.R_below r1 hbd
                    replace r2 := Kd.R_below r2 hbd
                    replace r8 := Kd.R_below r8 hbd
                    replace r3 := Kd.R_below r3 hbd
                    replace r4 := Kd.R_below r4 hbd
                    have dzU := HS.d
                    have hWsU : w.heap.size ≤ U0.heap.size := HS.be.size
                    have hgdU : gd < U0.heap.size := blk_lt dzU
                    clear hbd HS hHeld hy11
                    go_loopw [15] (fun i W5 => ∃ (p : Nat) (lh : List Int) (Ah : Option Addr) (ch : Nat) (lr : List ByteArray) (Ar : Option Addr) (cr : Nat), t.f1.toNat ≤ p ∧ p ≤ t.f2.toNat ∧ i = .int .i64 p ∧ Aside0 (lh = ((x.f5.take p).drop t.f1.toNat).map (fun h => if 0 ≤ h then h - t.f1 else h)) ∧ Aside0 (lr = (x.f6.take p).drop t.f1.toNat) ∧ Aside0 (lh.length ≤ p ∧ lr.length ≤ p) ∧ St w U0 gd #[.slice A2 x.f0.length cc2, .slice Av1 M1.length cv1, .slice (some ⟨g8, 0, none⟩) 1 1, .slice Av3 L3.length cv3, .slice Av4 L4.length cv4, .slice Ah lh.length ch, .slice Ar lr.length cr] W5 ∧ Aside0 ((Kd.int .i64).R 3 W5 U0.heap.size (fun b => b ≠ gd) (.slice Ah lh.length ch) lh) ∧ Aside0 (Kd.string.R 9 W5 U0.heap.size (fun b => b ≠ gd) (.slice Ar lr.length cr) lr)) (fun i _ => t.f2.toNat - (intOf i).toNat)
                    case atStart => exact ⟨t.f1.toNat, [], none, 0, [], none, 0, Nat.le_refl _, by omega, by rw [Int.toNat_of_nonneg hb0], ⟨by rw [List.drop_eq_nil_of_le (by rw [List.length_take]; omega)]; rfl⟩, ⟨by rw [List.drop_eq_nil_of_le (by rw [List.length_take]; omega)]⟩, ⟨Nat.zero_le _, Nat.zero_le _⟩, St.refl X dzU, ⟨Kd.R_nil _ _ _ _ _⟩, ⟨Kd.R_nil _ _ _ _ _⟩⟩
                    case round =>
                      rename World => W5
                      obtain ⟨p, lh, Ah, ch, lr, Ar, cr, hp1, hp2, rfl, HLH, HLR, HLL, HS, HRH, HRR⟩ := hrel
                      have HX := HS.xs X hwd (by omega)
                      have hsz := HS.size
                      have y12 := (blk_cell HX.t 2).trans rfl
                      by_cases hlt : p < t.f2.toNat
                      · have hlt' : (p : Int) < t.f2 := by omega
                        have hp5 : p < x.f5.length := by have := HL5.out; omega
                        have hp6 : p < x.f6.length := by have := HL6.out; omega
                        obtain ⟨a5', hd, hA5, -, hh, q5⟩ := elI HG5 ⟨HX.be⟩ p hp5
                        obtain rfl := Option.some.inj hA5
                        obtain ⟨a6', f, hA6, -, hf, q6⟩ := elS HG6 (bel_refl w) p hp6
                        obtain rfl := Option.some.inj hA6
                        have hhd := HHD.out.2.2 hd (List.mem_of_getElem? hh.out)
                        have y5 := (blk_cell HX.c 5).trans rfl
                        have y11 := (blk_cell HX.t 1).trans rfl
                        have z5 := (blk_cell HS.d 5).trans rfl
                        have zf5 := blk_frozen HS.d 5
                        have hbaseH : ∀ b, (Value.slice Ah lh.length ch).ownBlock = some b → U0.heap.size ≤ b := (Kd.R_own HRH.out).elim fun _ h => own_base h
                        have hbaseR : ∀ b, (Value.slice Ar lr.length cr).ownBlock = some b → U0.heap.size ≤ b := (Kd.R_own HRR.out).elim fun _ h => own_base h
                        have hp4 : p < 4096 := by omega
                        by_cases h0 : 0 ≤ hd
                        · have hif : (if 0 ≤ hd then hd - t.f1 else hd) = (hd - t.f1) := if_pos h0
                          have HCH : Aside0 (lh ++ [(hd - t.f1)] = ((x.f5.take (p + 1)).drop t.f1.toNat).map (fun h => if 0 ≤ h then h - t.f1 else h)) := ⟨by rw [HLH.out, mid_succ hp1 hh.out, List.map_append, List.map_cons, List.map_nil, hif]⟩
                          have HCR : Aside0 (lr ++ [f] = (x.f6.take (p + 1)).drop t.f1.toNat) := ⟨by rw [HLR.out, mid_succ hp1 hf.out]⟩
                          clear hif
                          go_wp2_with (at_builtin; refine Kd.R_append (Kd.int .i64) (w0 := W5) (W := W5) U0.heap.size rfl (.tmp 171) (.tmp 173) 27 3 _ 8 rfl Try.underlying27 info3 rfl (by decide) (by decide) (.slice Ah lh.length ch) lh (hd - t.f1) [.int .i64 (hd - t.f1)] (fun b => b ≠ gd) (fun _ => False) rfl rfl rfl (fun _ h => h.elim) (fun b hb => by omega) HRH.out (Below.refl _ _) hsz (by have := HLL.out; omega) ?_; intro v7 W7 hR7 _ hg7 _; generalize hlh : lh ++ [(hd - t.f1)] = lh2 at hR7; replace hlh := Aside0.mk hlh; obtain ⟨A7h, c7h, rfl⟩ := Kd.R_slice hR7; have HS7 := HS.grown hg7 hbaseH hWsU hgdU; have HR7 := R_grown_ne HRH.out HRR.out (by simp [Kd.string, Kd.scalar]) hg7; have z7 := (blk_cell HS7.d 5).trans rfl; have zf7 := blk_frozen HS7.d 5)
                          have HSP := (HS7.put (by omega) 5 (.slice A7h lh2.length c7h) rfl).drew
                          have HR6 := Kd.R_far (p := ⟨gd, 5, none⟩) HR7 (fun _ h => h) (.slice A7h lh2.length c7h)
                          have HH6 := Kd.R_far (p := ⟨gd, 5, none⟩) hR7 (fun _ h => h) (.slice A7h lh2.length c7h)
                          replace HR6 := Kd.R_below HR6 (pw_below_drewN (Below.refl _ _) 1 : Below (W7.setCell ⟨gd, 5, none⟩ (.slice A7h lh2.length c7h)).heap.size (W7.setCell ⟨gd, 5, none⟩ (.slice A7h lh2.length c7h)) ((W7.setCell ⟨gd, 5, none⟩ (.slice A7h lh2.length c7h)).drewN 1))
                          replace HH6 := Kd.R_below HH6 (pw_below_drewN (Below.refl _ _) 1 : Below (W7.setCell ⟨gd, 5, none⟩ (.slice A7h lh2.length c7h)).heap.size (W7.setCell ⟨gd, 5, none⟩ (.slice A7h lh2.length c7h)) ((W7.setCell ⟨gd, 5, none⟩ (.slice A7h lh2.length c7h)).drewN 1))
                          change Kd.R _ _ (W7.setCell ⟨gd, 5, none⟩ (.slice A7h lh2.length c7h)).drew _ _ _ _ at HR6
                          change Kd.R _ _ (W7.setCell ⟨gd, 5, none⟩ (.slice A7h lh2.length c7h)).drew _ _ _ _ at HH6
                          have XP := HSP.xs X hwd (by omega)
                          have q6P := pw_cell_below HSP.be q6
                          have hszP := HSP.size
                          refine start_ (n := 11) (S := fun w' => w'.cell? ⟨gd, 6, none⟩ = some (.slice Ar lr.length cr) ∧ w'.cell? ⟨w.heap.size, 6, none⟩ = some (.slice (some a6) x.f6.length c6) ∧ w'.cell? (a6.add p) = some (.string f)) (ds := [10]) #[false, false, false, false, false, false, false, false, false, false, false] (by kernel_rfl) rfl rfl ⟨(blk_cell HSP.d 6).trans rfl, (blk_cell XP.c 6).trans rfl, q6P⟩ (fun hHeld => ?_)
                          generalize (W7.setCell ⟨gd, 5, none⟩ (.slice A7h lh2.length c7h)).drew = U6 at HSP HR6 HH6 XP q6P hszP hHeld ⊢
                          refine pure_ (i := 0) (N := some 176) (v := ?_) (a' := ?_) #[true, false, false, false, false, false, false, false, false, false, false] rfl rfl (by kernel_rfl) (fun _ _ _ h => h) (Or.inl ⟨by rfl, ?_⟩) ?_ ?_
                          rotate_left
                          · intro w'
                            go_simp
                            with_reducible rfl
                          rotate_left
                          · simp only [Act.put, List.setIfInBounds_toArray, List.set_cons_zero, List.set_cons_succ]
                            rfl
                          refine pure_ (i := 2) (N := some 178) (v := ?_) (a' := ?_) #[true, false, true, false, false, false, false, false, false, false, false] rfl rfl (by kernel_rfl) (fun _ _ _ h => h) (Or.inl ⟨by rfl, ?_⟩) ?_ ?_
                          rotate_left
                          · intro w'
                            go_simp
                            with_reducible rfl
                          rotate_left
                          · simp only [Act.put, List.setIfInBounds_toArray, List.set_cons_zero, List.set_cons_succ]
                            rfl
                          refine pure_ (i := 4) (N := some 180) (v := ?_) (a' := ?_) #[true, false, true, false, true, false, false, false, false, false, false] rfl rfl (by kernel_rfl) (fun _ _ _ h => h) (Or.inl ⟨by rfl, ?_⟩) ?_ ?_
                          rotate_left
                          · intro w'
                            go_simp
                            with_reducible rfl
                          rotate_left
                          · simp only [Act.put, List.setIfInBounds_toArray, List.set_cons_zero, List.set_cons_succ]
                            rfl
                          refine take_ (i := 1) (N := some 177) (v := ?_) (a' := ?_) #[true, true, true, false, true, false, false, false, false, false, false] rfl rfl (by kernel_rfl) (fun _ _ _ h => h) (Or.inl ⟨by rfl, ?_⟩) hHeld ?_ ?_
                          rotate_left
                          · rintro w' ⟨s0, s1, s2⟩
                            go_simp
                            with_reducible rfl
                          rotate_left
                          · simp only [Act.put, List.setIfInBounds_toArray, List.set_cons_zero, List.set_cons_succ]
                            rfl
                          refine take_ (i := 3) (N := some 179) (v := ?_) (a' := ?_) #[true, true, true, true, true, false, false, false, false, false, false] rfl rfl (by kernel_rfl) (fun _ _ _ h => h) (Or.inl ⟨by rfl, ?_⟩) hHeld ?_ ?_
                          rotate_left
                          · rintro w' ⟨s0, s1, s2⟩
                            go_simp
                            with_reducible rfl
                          rotate_left
                          · simp only [Act.put, List.setIfInBounds_toArray, List.set_cons_zero, List.set_cons_succ]
                            rfl
                          refine pure_ (i := 5) (N := some 181) (v := ?_) (a' := ?_) #[true, true, true, true, true, true, false, false, false, false, false] rfl rfl (by kernel_rfl) (fun _ _ _ h => h) (Or.inl ⟨by rfl, ?_⟩) ?_ ?_
                          rotate_left
                          · intro w'
                            go_simp
                            with_reducible rfl
                          rotate_left
                          · simp only [Act.put, List.setIfInBounds_toArray, List.set_cons_zero, List.set_cons_succ]
                            rfl
                          refine take_ (i := 6) (N := some 182) (v := ?_) (a' := ?_) #[true, true, true, true, true, true, true, false, false, false, false] rfl rfl (by kernel_rfl) (fun _ _ _ h => h) (Or.inl ⟨by rfl, ?_⟩) hHeld ?_ ?_
                          rotate_left
                          · rintro w' ⟨s0, s1, s2⟩
                            go_simp
                            with_reducible rfl
                          rotate_left
                          · simp only [Act.put, List.setIfInBounds_toArray, List.set_cons_zero, List.set_cons_succ]
                            rfl
                          refine one_ (i := 7) (N := some 183) #[true, true, true, true, true, true, true, true, false, false, false] rfl rfl (by kernel_rfl) (by decide) (fun K hK => ?_)
                          refine value_ (w1 := ?_) (v := ?_) (by rfl) rfl ?_ ?_
                          rotate_left 2
                          · go_simp
                            constructor
                            · rfl
                            · rfl
                          change K _ (U6.alloc (.cells #[.string f] 9))
                          refine hK.out _ _ ⟨(blk_cell (HSP.alloc _).d 6).trans rfl, (blk_cell ((HSP.alloc _).xs X hwd (by omega)).c 6).trans rfl, pw_cell_below (HSP.alloc _).be q6⟩ (fun hHeld => ?_)
                          clear hK K
                          refine norm_ (a' := ?_) ?_ ?_
                          rotate_left
                          · show Act.put _ (some 183) _ = _
                            simp only [Act.put, List.setIfInBounds_toArray, List.set_cons_zero, List.set_cons_succ]
                            rfl
                          refine one_ (i := 8) (N := some 184) #[true, true, true, true, true, true, true, true, true, false, false] rfl rfl (by kernel_rfl) (by decide) (fun K hK => ?_)
                          refine Kd.R_append_step Kd.string (w0 := U6) (W := U6) U0.heap.size rfl (.tmp 177) (.tmp 183) 28 9 _ 16 rfl Try.underlying28 info9 rfl (by decide) (by decide) (.slice Ar lr.length cr) lr f [.string f] (fun b => b ≠ gd) (fun _ => False) rfl rfl rfl (fun _ h => h.elim) (fun b hb => by omega) HR6 (Below.refl _ _) hszP (by have := HLL.out; omega) ?_
                          intro v8 u8 hR8 _ hg8 _
                          generalize hlr : lr ++ [f] = lr2 at hR8
                          replace hlr := Aside0.mk hlr
                          obtain ⟨A8e, c8e, rfl⟩ := Kd.R_slice hR8
                          have HS8 := HSP.grown hg8 hbaseR hWsU hgdU
                          have HH8 := R_grown_ne HR6 HH6 (by simp [Kd.int, Kd.scalar]) hg8
                          refine hK.out _ _ ⟨(blk_cell HS8.d 6).trans rfl, (blk_cell (HS8.xs X hwd (by omega)).c 6).trans rfl, pw_cell_below HS8.be q6⟩ (fun hHeld => ?_)
                          clear hK K
                          refine norm_ (a' := ?_) ?_ ?_
                          rotate_left
                          · show Act.put _ (some 184) _ = _
                            simp only [Act.put, List.setIfInBounds_toArray, List.set_cons_zero, List.set_cons_succ]
                            rfl
                          refine pure_ (i := 9) (N := some 185) (v := ?_) (a' := ?_) #[true, true, true, true, true, true, true, true, true, true, false] rfl rfl (by kernel_rfl) (fun _ _ _ h => h) (Or.inl ⟨by rfl, ?_⟩) ?_ ?_
                          rotate_left
                          · intro w'
                            go_simp
                            with_reducible rfl
                          rotate_left
                          · simp only [Act.put, List.setIfInBounds_toArray, List.set_cons_zero, List.set_cons_succ]
                            rfl
                          refine last_ (i := 10) (N := none) #[true, true, true, true, true, true, true, true, true, true, true] rfl rfl (by kernel_rfl) (by decide) (fun K hK => ?_)
                          have zc := (blk_cell HS8.d 6).trans rfl
                          have zf := blk_frozen HS8.d 6
                          refine skip_ (w1 := ?_) (by rfl) rfl ?_ ?_
                          rotate_left
                          · go_simp
                            rfl
                          refine hK.out _ _ ?_
                          clear hK K
                          refine done_ (by kernel_rfl) ?_
                          go_wp2_with fail
                          go_roundw
                          case rel => exact ⟨p + 1, lh2, A7h, c7h, lr2, A8e, c8e, by omega, by omega, by go_num, ⟨by rw [← hlh.out]; exact HCH.out⟩, ⟨by rw [← hlr.out]; exact HCR.out⟩, ⟨by have := HLL.out; rw [← hlh.out, ← hlr.out, List.length_append, List.length_append, List.length_singleton, List.length_singleton]; omega⟩, HS8.put (by omega) 6 _ rfl, ⟨Kd.R_far (p := ⟨gd, 6, none⟩) HH8 (fun _ h => h) _⟩, ⟨Kd.R_far (p := ⟨gd, 6, none⟩) hR8 (fun _ h => h) _⟩⟩
                          case measure => simp [intOf]; omega
                        · have hif : (if 0 ≤ hd then hd - t.f1 else hd) = hd := if_neg h0
                          have HCH : Aside0 (lh ++ [hd] = ((x.f5.take (p + 1)).drop t.f1.toNat).map (fun h => if 0 ≤ h then h - t.f1 else h)) := ⟨by rw [HLH.out, mid_succ hp1 hh.out, List.map_append, List.map_cons, List.map_nil, hif]⟩
                          have HCR : Aside0 (lr ++ [f] = (x.f6.take (p + 1)).drop t.f1.toNat) := ⟨by rw [HLR.out, mid_succ hp1 hf.out]⟩
                          clear hif
                          go_wp2_with (at_builtin; refine Kd.R_append (Kd.int .i64) (w0 := W5) (W := W5) U0.heap.size rfl (.tmp 171) (.tmp 173) 27 3 _ 8 rfl Try.underlying27 info3 rfl (by decide) (by decide) (.slice Ah lh.length ch) lh hd [.int .i64 hd] (fun b => b ≠ gd) (fun _ => False) rfl rfl rfl (fun _ h => h.elim) (fun b hb => by omega) HRH.out (Below.refl _ _) hsz (by have := HLL.out; omega) ?_; intro v7 W7 hR7 _ hg7 _; generalize hlh : lh ++ [hd] = lh2 at hR7; replace hlh := Aside0.mk hlh; obtain ⟨A7h, c7h, rfl⟩ := Kd.R_slice hR7; have HS7 := HS.grown hg7 hbaseH hWsU hgdU; have HR7 := R_grown_ne HRH.out HRR.out (by simp [Kd.string, Kd.scalar]) hg7; have z7 := (blk_cell HS7.d 5).trans rfl; have zf7 := blk_frozen HS7.d 5)
                          have HSP := (HS7.put (by omega) 5 (.slice A7h lh2.length c7h) rfl).drew
                          have HR6 := Kd.R_far (p := ⟨gd, 5, none⟩) HR7 (fun _ h => h) (.slice A7h lh2.length c7h)
                          have HH6 := Kd.R_far (p := ⟨gd, 5, none⟩) hR7 (fun _ h => h) (.slice A7h lh2.length c7h)
                          replace HR6 := Kd.R_below HR6 (pw_below_drewN (Below.refl _ _) 1 : Below (W7.setCell ⟨gd, 5, none⟩ (.slice A7h lh2.length c7h)).heap.size (W7.setCell ⟨gd, 5, none⟩ (.slice A7h lh2.length c7h)) ((W7.setCell ⟨gd, 5, none⟩ (.slice A7h lh2.length c7h)).drewN 1))
                          replace HH6 := Kd.R_below HH6 (pw_below_drewN (Below.refl _ _) 1 : Below (W7.setCell ⟨gd, 5, none⟩ (.slice A7h lh2.length c7h)).heap.size (W7.setCell ⟨gd, 5, none⟩ (.slice A7h lh2.length c7h)) ((W7.setCell ⟨gd, 5, none⟩ (.slice A7h lh2.length c7h)).drewN 1))
                          change Kd.R _ _ (W7.setCell ⟨gd, 5, none⟩ (.slice A7h lh2.length c7h)).drew _ _ _ _ at HR6
                          change Kd.R _ _ (W7.setCell ⟨gd, 5, none⟩ (.slice A7h lh2.length c7h)).drew _ _ _ _ at HH6
                          have XP := HSP.xs X hwd (by omega)
                          have q6P := pw_cell_below HSP.be q6
                          have hszP := HSP.size
                          refine start_ (n := 11) (S := fun w' => w'.cell? ⟨gd, 6, none⟩ = some (.slice Ar lr.length cr) ∧ w'.cell? ⟨w.heap.size, 6, none⟩ = some (.slice (some a6) x.f6.length c6) ∧ w'.cell? (a6.add p) = some (.string f)) (ds := [10]) #[false, false, false, false, false, false, false, false, false, false, false] (by kernel_rfl) rfl rfl ⟨(blk_cell HSP.d 6).trans rfl, (blk_cell XP.c 6).trans rfl, q6P⟩ (fun hHeld => ?_)
                          generalize (W7.setCell ⟨gd, 5, none⟩ (.slice A7h lh2.length c7h)).drew = U6 at HSP HR6 HH6 XP q6P hszP hHeld ⊢
                          refine pure_ (i := 0) (N := some 176) (v := ?_) (a' := ?_) #[true, false, false, false, false, false, false, false, false, false, false] rfl rfl (by kernel_rfl) (fun _ _ _ h => h) (Or.inl ⟨by rfl, ?_⟩) ?_ ?_
                          rotate_left
                          · intro w'
                            go_simp
                            with_reducible rfl
                          rotate_left
                          · simp only [Act.put, List.setIfInBounds_toArray, List.set_cons_zero, List.set_cons_succ]
                            rfl
                          refine pure_ (i := 2) (N := some 178) (v := ?_) (a' := ?_) #[true, false, true, false, false, false, false, false, false, false, false] rfl rfl (by kernel_rfl) (fun _ _ _ h => h) (Or.inl ⟨by rfl, ?_⟩) ?_ ?_
                          rotate_left
                          · intro w'
                            go_simp
                            with_reducible rfl
                          rotate_left
                          · simp only [Act.put, List.setIfInBounds_toArray, List.set_cons_zero, List.set_cons_succ]
                            rfl
                          refine pure_ (i := 4) (N := some 180) (v := ?_) (a' := ?_) #[true, false, true, false, true, false, false, false, false, false, false] rfl rfl (by kernel_rfl) (fun _ _ _ h => h) (Or.inl ⟨by rfl, ?_⟩) ?_ ?_
                          rotate_left
                          · intro w'
                            go_simp
                            with_reducible rfl
                          rotate_left
                          · simp only [Act.put, List.setIfInBounds_toArray, List.set_cons_zero, List.set_cons_succ]
                            rfl
                          refine take_ (i := 1) (N := some 177) (v := ?_) (a' := ?_) #[true, true, true, false, true, false, false, false, false, false, false] rfl rfl (by kernel_rfl) (fun _ _ _ h => h) (Or.inl ⟨by rfl, ?_⟩) hHeld ?_ ?_
                          rotate_left
                          · rintro w' ⟨s0, s1, s2⟩
                            go_simp
                            with_reducible rfl
                          rotate_left
                          · simp only [Act.put, List.setIfInBounds_toArray, List.set_cons_zero, List.set_cons_succ]
                            rfl
                          refine take_ (i := 3) (N := some 179) (v := ?_) (a' := ?_) #[true, true, true, true, true, false, false, false, false, false, false] rfl rfl (by kernel_rfl) (fun _ _ _ h => h) (Or.inl ⟨by rfl, ?_⟩) hHeld ?_ ?_
                          rotate_left
                          · rintro w' ⟨s0, s1, s2⟩
                            go_simp
                            with_reducible rfl
                          rotate_left
                          · simp only [Act.put, List.setIfInBounds_toArray, List.set_cons_zero, List.set_cons_succ]
                            rfl
                          refine pure_ (i := 5) (N := some 181) (v := ?_) (a' := ?_) #[true, true, true, true, true, true, false, false, false, false, false] rfl rfl (by kernel_rfl) (fun _ _ _ h => h) (Or.inl ⟨by rfl, ?_⟩) ?_ ?_
                          rotate_left
                          · intro w'
                            go_simp
                            with_reducible rfl
                          rotate_left
                          · simp only [Act.put, List.setIfInBounds_toArray, List.set_cons_zero, List.set_cons_succ]
                            rfl
                          refine take_ (i := 6) (N := some 182) (v := ?_) (a' := ?_) #[true, true, true, true, true, true, true, false, false, false, false] rfl rfl (by kernel_rfl) (fun _ _ _ h => h) (Or.inl ⟨by rfl, ?_⟩) hHeld ?_ ?_
                          rotate_left
                          · rintro w' ⟨s0, s1, s2⟩
                            go_simp
                            with_reducible rfl
                          rotate_left
                          · simp only [Act.put, List.setIfInBounds_toArray, List.set_cons_zero, List.set_cons_succ]
                            rfl
                          refine one_ (i := 7) (N := some 183) #[true, true, true, true, true, true, true, true, false, false, false] rfl rfl (by kernel_rfl) (by decide) (fun K hK => ?_)
                          refine value_ (w1 := ?_) (v := ?_) (by rfl) rfl ?_ ?_
                          rotate_left 2
                          · go_simp
                            constructor
                            · rfl
                            · rfl
                          change K _ (U6.alloc (.cells #[.string f] 9))
                          refine hK.out _ _ ⟨(blk_cell (HSP.alloc _).d 6).trans rfl, (blk_cell ((HSP.alloc _).xs X hwd (by omega)).c 6).trans rfl, pw_cell_below (HSP.alloc _).be q6⟩ (fun hHeld => ?_)
                          clear hK K
                          refine norm_ (a' := ?_) ?_ ?_
                          rotate_left
                          · show Act.put _ (some 183) _ = _
                            simp only [Act.put, List.setIfInBounds_toArray, List.set_cons_zero, List.set_cons_succ]
                            rfl
                          refine one_ (i := 8) (N := some 184) #[true, true, true, true, true, true, true, true, true, false, false] rfl rfl (by kernel_rfl) (by decide) (fun K hK => ?_)
                          refine Kd.R_append_step Kd.string (w0 := U6) (W := U6) U0.heap.size rfl (.tmp 177) (.tmp 183) 28 9 _ 16 rfl Try.underlying28 info9 rfl (by decide) (by decide) (.slice Ar lr.length cr) lr f [.string f] (fun b => b ≠ gd) (fun _ => False) rfl rfl rfl (fun _ h => h.elim) (fun b hb => by omega) HR6 (Below.refl _ _) hszP (by have := HLL.out; omega) ?_
                          intro v8 u8 hR8 _ hg8 _
                          generalize hlr : lr ++ [f] = lr2 at hR8
                          replace hlr := Aside0.mk hlr
                          obtain ⟨A8e, c8e, rfl⟩ := Kd.R_slice hR8
                          have HS8 := HSP.grown hg8 hbaseR hWsU hgdU
                          have HH8 := R_grown_ne HR6 HH6 (by simp [Kd.int, Kd.scalar]) hg8
                          refine hK.out _ _ ⟨(blk_cell HS8.d 6).trans rfl, (blk_cell (HS8.xs X hwd (by omega)).c 6).trans rfl, pw_cell_below HS8.be q6⟩ (fun hHeld => ?_)
                          clear hK K
                          refine norm_ (a' := ?_) ?_ ?_
                          rotate_left
                          · show Act.put _ (some 184) _ = _
                            simp only [Act.put, List.setIfInBounds_toArray, List.set_cons_zero, List.set_cons_succ]
                            rfl
                          refine pure_ (i := 9) (N := some 185) (v := ?_) (a' := ?_) #[true, true, true, true, true, true, true, true, true, true, false] rfl rfl (by kernel_rfl) (fun _ _ _ h => h) (Or.inl ⟨by rfl, ?_⟩) ?_ ?_
                          rotate_left
                          · intro w'
                            go_simp
                            with_reducible rfl
                          rotate_left
                          · simp only [Act.put, List.setIfInBounds_toArray, List.set_cons_zero, List.set_cons_succ]
                            rfl
                          refine last_ (i := 10) (N := none) #[true, true, true, true, true, true, true, true, true, true, true] rfl rfl (by kernel_rfl) (by decide) (fun K hK => ?_)
                          have zc := (blk_cell HS8.d 6).trans rfl
                          have zf := blk_frozen HS8.d 6
                          refine skip_ (w1 := ?_) (by rfl) rfl ?_ ?_
                          rotate_left
                          · go_simp
                            rfl
                          refine hK.out _ _ ?_
                          clear hK K
                          refine done_ (by kernel_rfl) ?_
                          go_wp2_with fail
                          go_roundw
                          case rel => exact ⟨p + 1, lh2, A7h, c7h, lr2, A8e, c8e, by omega, by omega, by go_num, ⟨by rw [← hlh.out]; exact HCH.out⟩, ⟨by rw [← hlr.out]; exact HCR.out⟩, ⟨by have := HLL.out; rw [← hlh.out, ← hlr.out, List.length_append, List.length_append, List.length_singleton, List.length_singleton]; omega⟩, HS8.put (by omega) 6 _ rfl, ⟨Kd.R_far (p := ⟨gd, 6, none⟩) HH8 (fun _ h => h) _⟩, ⟨Kd.R_far (p := ⟨gd, 6, none⟩) hR8 (fun _ h => h) _⟩⟩
                          case measure => simp [intOf]; omega
                      · obtain rfl : p = t.f2.toNat := by omega
                        replace r1 := Kd.R_keep r1 HS.kp (fun _ h => h)
                        replace r2 := Kd.R_keep r2 HS.kp (fun _ h => h)
                        replace r8 := Kd.R_keep r8 HS.kp (fun _ h => h)
                        replace r3 := Kd.R_keep r3 HS.kp (fun _ h => h)
                        replace r4 := Kd.R_keep r4 HS.kp (fun _ h => h)
                        have r5 := HRH.out
                        have r6 := HRR.out
                        clear HRH HRR HLL
                        replace X := HX
                        have z0 := (blk_cell HS.d 0).trans rfl
                        have z1 := (blk_cell HS.d 1).trans rfl
                        have z2 := (blk_cell HS.d 2).trans rfl
                        have z3 := (blk_cell HS.d 3).trans rfl
                        have z4 := (blk_cell HS.d 4).trans rfl
                        have z5 := (blk_cell HS.d 5).trans rfl
                        have z6 := (blk_cell HS.d 6).trans rfl
                        have zr0 := (blk_cell X.r 0).trans rfl
                        have zr1 := (blk_cell X.r 1).trans rfl
                        have zr2 := (blk_cell X.r 2).trans rfl
                        have zr3 := (blk_cell X.r 3).trans rfl
                        have zr4 := (blk_cell X.r 4).trans rfl
                        have zr5 := (blk_cell X.r 5).trans rfl
                        have zr6 := (blk_cell X.r 6).trans rfl
                        have zf0 := blk_frozen X.r 0
                        have zf1 := blk_frozen X.r 1
                        have zf2 := blk_frozen X.r 2
                        have zf3 := blk_frozen X.r 3
                        have zf4 := blk_frozen X.r 4
                        have zf5 := blk_frozen X.r 5
                        have zf6 := blk_frozen X.r 6
                        go_wp2
                        clear z0 z1 z2 z3 z4 z5 z6 zr0 zr1 zr2 zr3 zr4 zr5 zr6 zf0 zf1 zf2 zf3 zf4 zf5 zf6
                        have hzr := put7_blk X.r (.slice A2 x.f0.length cc2) (.slice Av1 M1.length cv1) (.slice (some ⟨g8, 0, none⟩) 1 1) (.slice Av3 L3.length cv3) (.slice Av4 L4.length cv4) (.slice Ah lh.length ch) (.slice Ar lr.length cr)
                        have hwr := put7_below (g := w.heap.size + 1) X.be (by omega) (.slice A2 x.f0.length cc2) (.slice Av1 M1.length cv1) (.slice (some ⟨g8, 0, none⟩) 1 1) (.slice Av3 L3.length cv3) (.slice Av4 L4.length cv4) (.slice Ah lh.length ch) (.slice Ar lr.length cr)
                        refine bodyPost_ret (results_ct rfl _ (put7 W5 (w.heap.size + 1) (.slice A2 x.f0.length cc2) (.slice Av1 M1.length cv1) (.slice (some ⟨g8, 0, none⟩) 1 1) (.slice Av3 L3.length cv3) (.slice Av4 L4.length cv4) (.slice Ah lh.length ch) (.slice Ar lr.length cr)) (w.heap.size + 1) 30 #[.slice A2 x.f0.length cc2, .slice Av1 M1.length cv1, .slice (some ⟨g8, 0, none⟩) 1 1, .slice Av3 L3.length cv3, .slice Av4 L4.length cv4, .slice Ah lh.length ch, .slice Ar lr.length cr] (0, 0) _ rfl hzr Try.underlying30 rfl (by kernel_rfl)) rfl ?_
                        refine ⟨[.slice A2 x.f0.length cc2, .slice Av1 M1.length cv1, .slice (some ⟨g8, 0, none⟩) 1 1, .slice Av3 L3.length cv3, .slice Av4 L4.length cv4, .slice Ah lh.length ch, .slice Ar lr.length cr], ?_, ?_, hwr⟩
                        · rw [HE.out]; rfl
                        · have hcx : cutX x t = ⟨x.f0, M1, [shiftT t (-t.f1)], L3, L4, lh, lr⟩ := by rw [cutX, hM1.out, hLC, hLN, HE5.out, HLH.out, HLR.out]; rfl
                          rw [HO.out, hcx]
                          exact K_fin (y := ⟨x.f0, M1, [shiftT t (-t.f1)], L3, L4, lh, lr⟩) (R_fin r2 (Below.refl _ _) (by omega) (.slice A2 x.f0.length cc2) (.slice Av1 M1.length cv1) (.slice (some ⟨g8, 0, none⟩) 1 1) (.slice Av3 L3.length cv3) (.slice Av4 L4.length cv4) (.slice Ah lh.length ch) (.slice Ar lr.length cr)) (R_fin r1 (Below.refl _ _) (by omega) (.slice A2 x.f0.length cc2) (.slice Av1 M1.length cv1) (.slice (some ⟨g8, 0, none⟩) 1 1) (.slice Av3 L3.length cv3) (.slice Av4 L4.length cv4) (.slice Ah lh.length ch) (.slice Ar lr.length cr)) (R_fin r8 (Below.refl _ _) (by omega) (.slice A2 x.f0.length cc2) (.slice Av1 M1.length cv1) (.slice (some ⟨g8, 0, none⟩) 1 1) (.slice Av3 L3.length cv3) (.slice Av4 L4.length cv4) (.slice Ah lh.length ch) (.slice Ar lr.length cr)) (R_fin r3 (Below.refl _ _) (by omega) (.slice A2 x.f0.length cc2) (.slice Av1 M1.length cv1) (.slice (some ⟨g8, 0, none⟩) 1 1) (.slice Av3 L3.length cv3) (.slice Av4 L4.length cv4) (.slice Ah lh.length ch) (.slice Ar lr.length cr)) (R_fin r4 (Below.refl _ _) (by omega) (.slice A2 x.f0.length cc2) (.slice Av1 M1.length cv1) (.slice (some ⟨g8, 0, none⟩) 1 1) (.slice Av3 L3.length cv3) (.slice Av4 L4.length cv4) (.slice Ah lh.length ch) (.slice Ar lr.length cr)) (R_fin r5 (Below.refl _ _) (by omega) (.slice A2 x.f0.length cc2) (.slice Av1 M1.length cv1) (.slice (some ⟨g8, 0, none⟩) 1 1) (.slice Av3 L3.length cv3) (.slice Av4 L4.length cv4) (.slice Ah lh.length ch) (.slice Ar lr.length cr)) (R_fin r6 (Below.refl _ _) (by omega) (.slice A2 x.f0.length cc2) (.slice Av1 M1.length cv1) (.slice (some ⟨g8, 0, none⟩) 1 1) (.slice Av3 L3.length cv3) (.slice Av4 L4.length cv4) (.slice Ah lh.length ch) (.slice Ar lr.length cr))
                  · have HE5 : Aside0 (hasH x t = false) := ⟨by simp [hasH, hnh]⟩
                    refine start_ (n := 21) (S := fun w' => w'.cell? ⟨w.heap.size, 5, none⟩ = some (.slice (some a5) x.f5.length c5) ∧ w'.cell? ⟨gT, 1, none⟩ = some (.int .i64 t.f1) ∧ w'.cell? ⟨gT, 2, none⟩ = some (.int .i64 t.f2) ∧ w'.cell? ⟨w.heap.size, 6, none⟩ = some (.slice (some a6) x.f6.length c6)) (ds := []) #[false, false, false, false, false, false, false, false, false, false, false, false, false, false, false, false, false, false, false, false, false] (by kernel_rfl) rfl rfl ⟨(blk_cell X.c 5).trans rfl, (blk_cell X.t 1).trans rfl, (blk_cell X.t 2).trans rfl, (blk_cell X.c 6).trans rfl⟩ (fun hHeld => ?_)
                    generalize W4.drew = U0 at X HS hbd hHeld ⊢
                    refine pure_ (i := 0) (N := some 129) (v := ?_) (a' := ?_) #[true, false, false, false, false, false, false, false, false, false, false, false, false, false, false, false, false, false, false, false, false] rfl rfl (by kernel_rfl) (fun _ _ _ h => h) (Or.inl ⟨by rfl, ?_⟩) ?_ ?_
                    rotate_left
                    · intro w'
                      go_simp
                      with_reducible rfl
                    rotate_left
                    · simp only [Act.put, List.setIfInBounds_toArray, List.set_cons_zero, List.set_cons_succ]
                      rfl
                    refine take_ (i := 1) (N := some 130) (v := ?_) (a' := ?_) #[true, true, false, false, false, false, false, false, false, false, false, false, false, false, false, false, false, false, false, false, false] rfl rfl (by kernel_rfl) (fun _ _ _ h => h) (Or.inl ⟨by rfl, ?_⟩) hHeld ?_ ?_
                    rotate_left
                    · rintro w' ⟨s0, s1, s2, s3⟩
                      go_simp
                      with_reducible rfl
                    rotate_left
                    · simp only [Act.put, List.setIfInBounds_toArray, List.set_cons_zero, List.set_cons_succ]
                      rfl
                    refine pure_ (i := 2) (N := some 131) (v := ?_) (a' := ?_) #[true, true, true, false, false, false, false, false, false, false, false, false, false, false, false, false, false, false, false, false, false] rfl rfl (by kernel_rfl) (fun _ _ _ h => h) (Or.inl ⟨by rfl, ?_⟩) ?_ ?_
                    rotate_left
                    · intro w'
                      go_simp
                      with_reducible rfl
                    rotate_left
                    · simp only [Act.put, List.setIfInBounds_toArray, List.set_cons_zero, List.set_cons_succ]
                      rfl
                    refine pure_ (i := 3) (N := some 132) (v := ?_) (a' := ?_) #[true, true, true, true, false, false, false, false, false, false, false, false, false, false, false, false, false, false, false, false, false] rfl rfl (by kernel_rfl) (fun _ _ _ h => h) (Or.inl ⟨by rfl, ?_⟩) ?_ ?_
                    rotate_left
                    · intro w'
                      go_simp
                      with_reducible rfl
                    rotate_left
                    · simp only [Act.put, List.setIfInBounds_toArray, List.set_cons_zero, List.set_cons_succ]
                      rfl
                    refine pure_ (i := 4) (N := some 133) (v := ?_) (a' := ?_) #[true, true, true, true, true, false, false, false, false, false, false, false, false, false, false, false, false, false, false, false, false] rfl rfl (by kernel_rfl) (fun _ _ _ h => h) (Or.inl ⟨by rfl, ?_⟩) ?_ ?_
                    rotate_left
                    · intro w'
                      go_simp
                      with_reducible rfl
                    rotate_left
                    · simp only [Act.put, List.setIfInBounds_toArray, List.set_cons_zero, List.set_cons_succ]
                      rfl
                    refine pure_ (i := 5) (N := some 134) (v := ?_) (a' := ?_) #[true, true, true, true, true, true, false, false, false, false, false, false, false, false, false, false, false, false, false, false, false] rfl rfl (by kernel_rfl) (fun _ _ _ h => h) (Or.inl ⟨by rfl, ?_⟩) ?_ ?_
                    rotate_left
                    · intro w'
                      go_simp
                      with_reducible rfl
                    rotate_left
                    · simp only [Act.put, List.setIfInBounds_toArray, List.set_cons_zero, List.set_cons_succ]
                      rfl
                    refine pure_ (i := 7) (N := some 136) (v := ?_) (a' := ?_) #[true, true, true, true, true, true, false, true, false, false, false, false, false, false, false, false, false, false, false, false, false] rfl rfl (by kernel_rfl) (fun _ _ _ h => h) (Or.inl ⟨by rfl, ?_⟩) ?_ ?_
                    rotate_left
                    · intro w'
                      go_simp
                      with_reducible rfl
                    rotate_left
                    · simp only [Act.put, List.setIfInBounds_toArray, List.set_cons_zero, List.set_cons_succ]
                      rfl
                    refine pure_ (i := 9) (N := some 138) (v := ?_) (a' := ?_) #[true, true, true, true, true, true, false, true, false, true, false, false, false, false, false, false, false, false, false, false, false] rfl rfl (by kernel_rfl) (fun _ _ _ h => h) (Or.inl ⟨by rfl, ?_⟩) ?_ ?_
                    rotate_left
                    · intro w'
                      go_simp
                      with_reducible rfl
                    rotate_left
                    · simp only [Act.put, List.setIfInBounds_toArray, List.set_cons_zero, List.set_cons_succ]
                      rfl
                    refine pure_ (i := 12) (N := some 141) (v := ?_) (a' := ?_) #[true, true, true, true, true, true, false, true, false, true, false, false, true, false, false, false, false, false, false, false, false] rfl rfl (by kernel_rfl) (fun _ _ _ h => h) (Or.inl ⟨by rfl, ?_⟩) ?_ ?_
                    rotate_left
                    · intro w'
                      go_simp
                      with_reducible rfl
                    rotate_left
                    · simp only [Act.put, List.setIfInBounds_toArray, List.set_cons_zero, List.set_cons_succ]
                      rfl
                    refine pure_ (i := 14) (N := some 143) (v := ?_) (a' := ?_) #[true, true, true, true, true, true, false, true, false, true, false, false, true, false, true, false, false, false, false, false, false] rfl rfl (by kernel_rfl) (fun _ _ _ h => h) (Or.inl ⟨by rfl, ?_⟩) ?_ ?_
                    rotate_left
                    · intro w'
                      go_simp
                      with_reducible rfl
                    rotate_left
                    · simp only [Act.put, List.setIfInBounds_toArray, List.set_cons_zero, List.set_cons_succ]
                      rfl
                    refine pure_ (i := 16) (N := some 145) (v := ?_) (a' := ?_) #[true, true, true, true, true, true, false, true, false, true, false, false, true, false, true, false, true, false, false, false, false] rfl rfl (by kernel_rfl) (fun _ _ _ h => h) (Or.inl ⟨by rfl, ?_⟩) ?_ ?_
                    rotate_left
                    · intro w'
                      go_simp
                      with_reducible rfl
                    rotate_left
                    · simp only [Act.put, List.setIfInBounds_toArray, List.set_cons_zero, List.set_cons_succ]
                      rfl
                    refine take_ (i := 6) (N := some 135) (v := ?_) (a' := ?_) #[true, true, true, true, true, true, true, true, false, true, false, false, true, false, true, false, true, false, false, false, false] rfl rfl (by kernel_rfl) (fun _ _ _ h => h) (Or.inl ⟨by rfl, ?_⟩) hHeld ?_ ?_
                    rotate_left
                    · rintro w' ⟨s0, s1, s2, s3⟩
                      go_simp
                      with_reducible rfl
                    rotate_left
                    · simp only [Act.put, List.setIfInBounds_toArray, List.set_cons_zero, List.set_cons_succ]
                      rfl
                    refine take_ (i := 8) (N := some 137) (v := ?_) (a' := ?_) #[true, true, true, true, true, true, true, true, true, true, false, false, true, false, true, false, true, false, false, false, false] rfl rfl (by kernel_rfl) (fun _ _ _ h => h) (Or.inl ⟨by rfl, ?_⟩) hHeld ?_ ?_
                    rotate_left
                    · rintro w' ⟨s0, s1, s2, s3⟩
                      go_simp
                      with_reducible rfl
                    rotate_left
                    · simp only [Act.put, List.setIfInBounds_toArray, List.set_cons_zero, List.set_cons_succ]
                      rfl
                    refine take_ (i := 10) (N := some 139) (v := ?_) (a' := ?_) #[true, true, true, true, true, true, true, true, true, true, true, false, true, false, true, false, true, false, false, false, false] rfl rfl (by kernel_rfl) (fun _ _ _ h => h) (Or.inl ⟨by rfl, ?_⟩) hHeld ?_ ?_
                    rotate_left
                    · rintro w' ⟨s0, s1, s2, s3⟩
                      go_simp
                      with_reducible rfl
                    rotate_left
                    · simp only [Act.put, List.setIfInBounds_toArray, List.set_cons_zero, List.set_cons_succ]
                      rfl
                    refine pure_ (i := 11) (N := some 140) (v := ?_) (a' := ?_) #[true, true, true, true, true, true, true, true, true, true, true, true, true, false, true, false, true, false, false, false, false] rfl rfl (by kernel_rfl) (fun _ _ _ h => h) (Or.inl ⟨by rfl, ?_⟩) ?_ ?_
                    rotate_left
                    · intro w'
                      go_simp
                      with_reducible rfl
                    rotate_left
                    · simp only [Act.put, List.setIfInBounds_toArray, List.set_cons_zero, List.set_cons_succ]
                      rfl
                    refine take_ (i := 13) (N := some 142) (v := ?_) (a' := ?_) #[true, true, true, true, true, true, true, true, true, true, true, true, true, true, true, false, true, false, false, false, false] rfl rfl (by kernel_rfl) (fun _ _ _ h => h) (Or.inl ⟨by rfl, ?_⟩) hHeld ?_ ?_
                    rotate_left
                    · rintro w' ⟨s0, s1, s2, s3⟩
                      go_simp
                      with_reducible rfl
                    rotate_left
                    · simp only [Act.put, List.setIfInBounds_toArray, List.set_cons_zero, List.set_cons_succ]
                      rfl
                    refine take_ (i := 15) (N := some 144) (v := ?_) (a' := ?_) #[true, true, true, true, true, true, true, true, true, true, true, true, true, true, true, true, true, false, false, false, false] rfl rfl (by kernel_rfl) (fun _ _ _ h => h) (Or.inl ⟨by rfl, ?_⟩) hHeld ?_ ?_
                    rotate_left
                    · rintro w' ⟨s0, s1, s2, s3⟩
                      go_simp
                      with_reducible rfl
                    rotate_left
                    · simp only [Act.put, List.setIfInBounds_toArray, List.set_cons_zero, List.set_cons_succ]
                      rfl
                    refine take_ (i := 17) (N := some 146) (v := ?_) (a' := ?_) #[true, true, true, true, true, true, true, true, true, true, true, true, true, true, true, true, true, true, false, false, false] rfl rfl (by kernel_rfl) (fun _ _ _ h => h) (Or.inl ⟨by rfl, ?_⟩) hHeld ?_ ?_
                    rotate_left
                    · rintro w' ⟨s0, s1, s2, s3⟩
                      go_simp
                      with_reducible rfl
                    rotate_left
                    · simp only [Act.put, List.setIfInBounds_toArray, List.set_cons_zero, List.set_cons_succ]
                      rfl
                    refine pure_ (i := 18) (N := some 147) (v := ?_) (a' := ?_) #[true, true, true, true, true, true, true, true, true, true, true, true, true, true, true, true, true, true, true, false, false] rfl rfl (by kernel_rfl) (fun _ _ _ h => h) (Or.inl ⟨by rfl, ?_⟩) ?_ ?_
                    rotate_left
                    · intro w'
                      go_simp
                      with_reducible rfl
                    rotate_left
                    · simp only [Act.put, List.setIfInBounds_toArray, List.set_cons_zero, List.set_cons_succ]
                      rfl
                    refine one_ (i := 19) (N := some 148) #[true, true, true, true, true, true, true, true, true, true, true, true, true, true, true, true, true, true, true, true, false] rfl rfl (by kernel_rfl) (by decide) (fun K hK => ?_)
                    refine goes_ Try.func56 (by kernel_rfl) rfl #[.slice (some (a5.add t.f1.toNat)) (t.f2.toNat - t.f1.toNat) (c5 - t.f1.toNat), .slice (some (a6.add t.f1.toNat)) (t.f2.toNat - t.f1.toNat) (c6 - t.f1.toNat)] (by rfl) rfl rfl (by simp only [List.map_toArray, List.map_cons, List.map_nil]; rfl) ?_
                    have hcn := noHeads_calls (some (a5.add t.f1.toNat)) (some (a6.add t.f1.toNat)) (c5 - t.f1.toNat) (c6 - t.f1.toNat) (mid x.f5 t.f1 t.f2) (mid x.f6 t.f1 t.f2) U0 (Kd.C_below HM5.out X.be) (Kd.C_below HM6.out X.be) (by rw [HK5.out, HK6.out]; exact Nat.le_refl _)
                    rw [HK5.out, HK6.out, hnh] at hcn
                    with_reducible refine (hcn).mono ?_
                    rintro e u19 ⟨rfl, rfl⟩
                    refine ⟨_, rfl, ?_⟩
                    refine hK.out _ _ ⟨(blk_cell X.c 5).trans rfl, (blk_cell X.t 1).trans rfl, (blk_cell X.t 2).trans rfl, (blk_cell X.c 6).trans rfl⟩ (fun hHeld => ?_)
                    clear hK K
                    refine norm_ (a' := ?_) ?_ ?_
                    rotate_left
                    · show Act.put _ (some 148) _ = _
                      simp only [Act.put, List.setIfInBounds_toArray, List.set_cons_zero, List.set_cons_succ]
                      rfl
                    refine pure_ (i := 20) (N := some 149) (v := ?_) (a' := ?_) #[true, true, true, true, true, true, true, true, true, true, true, true, true, true, true, true, true, true, true, true, true] rfl rfl (by kernel_rfl) (fun _ _ _ h => h) (Or.inl ⟨by rfl, ?_⟩) ?_ ?_
                    rotate_left
                    · intro w'
                      go_simp
                      with_reducible rfl
                    rotate_left
                    · simp only [Act.put, List.setIfInBounds_toArray, List.set_cons_zero, List.set_cons_succ]
                      rfl
                    refine done_ (by kernel_rfl) ?_
                    have z0 := (blk_cell HS.d 0).trans rfl
                    have z1 := (blk_cell HS.d 1).trans rfl
                    have z2 := (blk_cell HS.d 2).trans rfl
                    have z3 := (blk_cell HS.d 3).trans rfl
                    have z4 := (blk_cell HS.d 4).trans rfl
                    have z5 := (blk_cell HS.d 5).trans rfl
                    have z6 := (blk_cell HS.d 6).trans rfl
                    have zr0 := (blk_cell X.r 0).trans rfl
                    have zr1 := (blk_cell X.r 1).trans rfl
                    have zr2 := (blk_cell X.r 2).trans rfl
                    have zr3 := (blk_cell X.r 3).trans rfl
                    have zr4 := (blk_cell X.r 4).trans rfl
                    have zr5 := (blk_cell X.r 5).trans rfl
                    have zr6 := (blk_cell X.r 6).trans rfl
                    have zf0 := blk_frozen X.r 0
                    have zf1 := blk_frozen X.r 1
                    have zf2 := blk_frozen X.r 2
                    have zf3 := blk_frozen X.r 3
                    have zf4 := blk_frozen X.r 4
                    have zf5 := blk_frozen X.r 5
                    have zf6 := blk_frozen X.r 6
                    go_wp2
                    clear z0 z1 z2 z3 z4 z5 z6 zr0 zr1 zr2 zr3 zr4 zr5 zr6 zf0 zf1 zf2 zf3 zf4 zf5 zf6
                    have hzr := put7_blk X.r (.slice A2 x.f0.length cc2) (.slice Av1 M1.length cv1) (.slice (some ⟨g8, 0, none⟩) 1 1) (.slice Av3 L3.length cv3) (.slice Av4 L4.length cv4) (.slice none 0 0) (.slice none 0 0)
                    have hwr := put7_below (g := w.heap.size + 1) X.be (by omega) (.slice A2 x.f0.length cc2) (.slice Av1 M1.length cv1) (.slice (some ⟨g8, 0, none⟩) 1 1) (.slice Av3 L3.length cv3) (.slice Av4 L4.length cv4) (.slice none 0 0) (.slice none 0 0)
                    refine bodyPost_ret (results_ct rfl _ (put7 U0 (w.heap.size + 1) (.slice A2 x.f0.length cc2) (.slice Av1 M1.length cv1) (.slice (some ⟨g8, 0, none⟩) 1 1) (.slice Av3 L3.length cv3) (.slice Av4 L4.length cv4) (.slice none 0 0) (.slice none 0 0)) (w.heap.size + 1) 30 #[.slice A2 x.f0.length cc2, .slice Av1 M1.length cv1, .slice (some ⟨g8, 0, none⟩) 1 1, .slice Av3 L3.length cv3, .slice Av4 L4.length cv4, .slice none 0 0, .slice none 0 0] (0, 0) _ rfl hzr Try.underlying30 rfl (by kernel_rfl)) rfl ?_
                    refine ⟨[.slice A2 x.f0.length cc2, .slice Av1 M1.length cv1, .slice (some ⟨g8, 0, none⟩) 1 1, .slice Av3 L3.length cv3, .slice Av4 L4.length cv4, .slice none 0 0, .slice none 0 0], ?_, ?_, hwr⟩
                    · rw [HE.out]; rfl
                    · have hcx : cutX x t = ⟨x.f0, M1, [shiftT t (-t.f1)], L3, L4, [], []⟩ := by rw [cutX, hM1.out, hLC, hLN, HE5.out]; rfl
                      rw [HO.out, hcx]
                      exact K_fin (y := ⟨x.f0, M1, [shiftT t (-t.f1)], L3, L4, [], []⟩) (R_fin r2 hbd (by omega) (.slice A2 x.f0.length cc2) (.slice Av1 M1.length cv1) (.slice (some ⟨g8, 0, none⟩) 1 1) (.slice Av3 L3.length cv3) (.slice Av4 L4.length cv4) (.slice none 0 0) (.slice none 0 0)) (R_fin r1 hbd (by omega) (.slice A2 x.f0.length cc2) (.slice Av1 M1.length cv1) (.slice (some ⟨g8, 0, none⟩) 1 1) (.slice Av3 L3.length cv3) (.slice Av4 L4.length cv4) (.slice none 0 0) (.slice none 0 0)) (R_fin r8 hbd (by omega) (.slice A2 x.f0.length cc2) (.slice Av1 M1.length cv1) (.slice (some ⟨g8, 0, none⟩) 1 1) (.slice Av3 L3.length cv3) (.slice Av4 L4.length cv4) (.slice none 0 0) (.slice none 0 0)) (R_fin r3 hbd (by omega) (.slice A2 x.f0.length cc2) (.slice Av1 M1.length cv1) (.slice (some ⟨g8, 0, none⟩) 1 1) (.slice Av3 L3.length cv3) (.slice Av4 L4.length cv4) (.slice none 0 0) (.slice none 0 0)) (R_fin r4 hbd (by omega) (.slice A2 x.f0.length cc2) (.slice Av1 M1.length cv1) (.slice (some ⟨g8, 0, none⟩) 1 1) (.slice Av3 L3.length cv3) (.slice Av4 L4.length cv4) (.slice none 0 0) (.slice none 0 0)) (Kd.R_nil (Kd.int .i64) 3 _ 0 (fun _ => True)) (Kd.R_nil Kd.string 9 _ 0 (fun _ => True))
end Go.Proofs.Ytkdgholmfnidkaa
