/- The reference's Extract: what it returns. -/
import Derived.Test.YtkdgholmfnidkaaN
import Derived.Test.YtkdgholmfnidkaaZK
namespace Go.Proofs.Ytkdgholmfnidkaa
open Go.RowKit Go.Proofs.YtkdgholmfnidkaaW.PrintWords Go.Proofs.YtkdgholmfnidkaaW.PrintLast Go.Proofs.YtkdgholmfnidkaaW.PrintMore

/-- Elements that lead to what came in: a row of them is the call's own, what they lead to is not. -/
def kS {α : Type} (w : World) (d : Kd α) : Kd α where
  sz := d.sz
  E := []
  K := fun _ x cs => d.K w x cs
  M := fun _ _ _ x cs => d.K w x cs
  K_len := d.K_len
  K_one := d.K_one
  K_below := fun _ h => h
  K_of_M := fun h => h
  M_mono := fun _ h => h
  M_bound := fun h => h
  M_move := fun _ h => h
  M_lower := fun _ h => h
theorem kS_C {α : Type} {w W : World} {d : Kd α} {A : Option Addr} {n : Nat} {xs : List α} (h : d.C w A n xs) (hb : Below w.heap.size w W) : (kS w d).C W A n xs := ReadsRow.imp_ h hb (fun _ _ hp => hp)
theorem C_kS {α : Type} {w W : World} {d : Kd α} {A : Option Addr} {n : Nat} {xs : List α} (h : (kS w d).C W A n xs) (hb : Below w.heap.size w W) : d.C W A n xs := ReadsRow.imp_ (w1 := W) (show ReadsRow (d.K w) d.sz W A n xs from h) (Below.refl _ _) (fun _ _ hp => d.K_below hb hp)
theorem Xs.putT {w W : World} {cs tv tv' : Array Value} {g : Nat} (h : Xs w cs g tv W) (hg : w.heap.size + 1 < g) (j : Nat) (v : Value) (hv : tv.setIfInBounds j v = tv') : Xs w cs g tv' (W.setCell ⟨g, j, none⟩ v) :=
  ⟨below_set h.be (by omega), blk_far h.c (by simp; omega) v, blk_far h.r (by simp; omega) v, blk_put h.t j v hv, h.le⟩
theorem K_finS {w W : World} {y : S30} {b0 b1 b2 b3 b4 b5 b6 : Nat} {o0 o1 o2 o3 o4 o5 o6 : Nat → Prop} {A0 A1 A2 A3 A4 A5 A6 : Option Addr} {c0 c1 c2 c3 c4 c5 c6 : Nat} (hb : Below w.heap.size w W)
    (r0 : k62.R 62 W b0 o0 (.slice A0 y.f0.length c0) y.f0) (r1 : (kS w (Kd.slice 9 Kd.string)).R 28 W b1 o1 (.slice A1 y.f1.length c1) y.f1) (r2 : (kS w k64).R 64 W b2 o2 (.slice A2 y.f2.length c2) y.f2) (r3 : (kS w k39).R 39 W b3 o3 (.slice A3 y.f3.length c3) y.f3)
    (r4 : k74.R 74 W b4 o4 (.slice A4 y.f4.length c4) y.f4) (r5 : (Kd.int .i64).R 3 W b5 o5 (.slice A5 y.f5.length c5) y.f5) (r6 : Kd.string.R 9 W b6 o6 (.slice A6 y.f6.length c6) y.f6) :
    k30.K W y [.slice A0 y.f0.length c0, .slice A1 y.f1.length c1, .slice A2 y.f2.length c2, .slice A3 y.f3.length c3, .slice A4 y.f4.length c4, .slice A5 y.f5.length c5, .slice A6 y.f6.length c6] :=
  k30_mk W y (R_CK r0).1 (R_CK r0).2 (R_CK r1).1 (C_kS (R_CK r1).2 hb) (R_CK r2).1 (C_kS (R_CK r2).2 hb) (R_CK r3).1 (C_kS (R_CK r3).2 hb) (R_CK r4).1 (R_CK r4).2 (R_CK r5).1 (R_CK r5).2 (R_CK r6).1 (R_CK r6).2
theorem heads_near2 {ts : List S64} {n : Nat} {hs : List Int} {fs : List ByteArray} (hS : Sep ts) {t : S64} (ht : t ∈ ts) (h : (headsErr n ts hs fs).2 = 0) (hl : hs.length = fs.length) (j : Nat) (u : Int) (hj : hs[j]? = some u) (h1 : t.f1 ≤ (j : Int)) (h2 : (j : Int) < t.f2) : u = -1 ∨ (t.f1 ≤ u ∧ u < t.f2) := by
  unfold headsErr at h
  split at h
  · simp at h
  split at h
  · simp at h
  exact heads_near (n := n) hS ht hs fs 0 h hl j u hj (by rw [Nat.zero_add]; exact h1) (by rw [Nat.zero_add]; exact h2)
set_option maxHeartbeats 16000000 in
set_option maxRecDepth 100000 in
theorem rExtract_calls (x : S30) (cs : List Value) (k : Int) (w : World) (hx : k30.K w x cs) (hok : okC x) :
    Calls Try.prog 22 #[.agg cs.toArray, .int .i64 k] w fun e w' => ∃ cs' : List Value, e = .returned (.tuple #[.agg cs'.toArray, .int .i64 (extErr x k)]) ∧ k30.K w' (extOf x k) cs' ∧ Below w.heap.size w w' := by
  have hu30 := Try.underlying30
  have hu64 := Try.underlying64
  have hu39 := Try.underlying39
  have hu74 := Try.underlying74
  have hb0 : Below w.heap.size w ((w.alloc (.cells cs.toArray 30)).alloc (.cells #[.slice none 0 0, .slice none 0 0, .slice none 0 0, .slice none 0 0, .slice none 0 0, .slice none 0 0, .slice none 0 0] 30)) := below_alloc (below_alloc (Below.refl _ _) _) _
  have hc := rValid_corpus_calls x cs _ (k30.K_below hb0 hx) hok
  obtain ⟨A0, c0, A1, c1, A2, c2, A3, c3, A4, c4, A5, c5, A6, c6, rfl, l0, g0, l1, g1, l2, g2, l3, g3, l4, g4, l5, g5, l6, g6⟩ := k30_open hx
  clear hx
  have hm2 := Kd.C_max g2
  have HX := (Bx.refl w #[.slice A0 x.f0.length c0, .slice A1 x.f1.length c1, .slice A2 x.f2.length c2, .slice A3 x.f3.length c3, .slice A4 x.f4.length c4, .slice A5 x.f5.length c5, .slice A6 x.f6.length c6] 30).alloc (.cells #[.slice none 0 0, .slice none 0 0, .slice none 0 0, .slice none 0 0, .slice none 0 0, .slice none 0 0, .slice none 0 0] 30)
  have hZ := blk_new (w.alloc (.cells #[.slice A0 x.f0.length c0, .slice A1 x.f1.length c1, .slice A2 x.f2.length c2, .slice A3 x.f3.length c3, .slice A4 x.f4.length c4, .slice A5 x.f5.length c5, .slice A6 x.f6.length c6] 30)) (.cells #[.slice none 0 0, .slice none 0 0, .slice none 0 0, .slice none 0 0, .slice none 0 0, .slice none 0 0, .slice none 0 0] 30)
  rw [World.size_alloc] at hZ
  cases hv : ((vErr x).2.2 == 0)
  · rw [hv] at hc
    have hv' : (vErr x).2.2 ≠ 0 := by simpa using hv
    have HE : Aside0 (extErr x k = 1) := ⟨by rw [extErr, if_pos hv']⟩
    have HO : Aside0 (extOf x k = z30) := ⟨by rw [extOf, if_neg (by rw [HE.out]; decide)]⟩
    clear hv hv'
    go_enter Try.func22, Try.ntmps22
    go_wp2_with (go_at_call 57; refine hc.mono ?_; rintro e w1 ⟨rfl, hb⟩; have z1 := blk_cell (blk_below hZ hb); have z2 := blk_frozen (blk_below hZ hb))
    have hz := put7_blk (blk_below hZ hb) (.slice none 0 0) (.slice none 0 0) (.slice none 0 0) (.slice none 0 0) (.slice none 0 0) (.slice none 0 0) (.slice none 0 0)
    have hw := put7_below (g := w.heap.size + 1) (below_step hb0 hb) (by omega) (.slice none 0 0) (.slice none 0 0) (.slice none 0 0) (.slice none 0 0) (.slice none 0 0) (.slice none 0 0) (.slice none 0 0)
    refine bodyPost_ret (results_ct rfl _ (put7 w1 (w.heap.size + 1) (.slice none 0 0) (.slice none 0 0) (.slice none 0 0) (.slice none 0 0) (.slice none 0 0) (.slice none 0 0) (.slice none 0 0)) (w.heap.size + 1) 30 #[.slice none 0 0, .slice none 0 0, .slice none 0 0, .slice none 0 0, .slice none 0 0, .slice none 0 0, .slice none 0 0] (0, 0) _ rfl hz Try.underlying30 rfl (by kernel_rfl)) rfl ?_
    refine ⟨_, ?_, by rw [HO.out]; exact k30_zero _, hw⟩
    rw [HE.out]; rfl
  · rw [hv] at hc
    have hv' : (vErr x).2.2 = 0 := by simpa using hv
    clear hv
    by_cases hk0 : k < 0
    · have HE : Aside0 (extErr x k = 8) := ⟨by rw [extErr, if_neg (fun h => h hv'), if_pos (.inl hk0)]⟩
      have HO : Aside0 (extOf x k = z30) := ⟨by rw [extOf, if_neg (by rw [HE.out]; decide)]⟩
      clear hv'
      go_enter Try.func22, Try.ntmps22
      go_wp2_with (go_at_call 57; refine hc.mono ?_; rintro e w1 ⟨rfl, hb⟩; have z1 := blk_cell (blk_below hZ hb); have z2 := blk_frozen (blk_below hZ hb); have b7 := (HX.step hb).at_)
      have hz := put7_blk (blk_below hZ hb) (.slice none 0 0) (.slice none 0 0) (.slice none 0 0) (.slice none 0 0) (.slice none 0 0) (.slice none 0 0) (.slice none 0 0)
      have hw := put7_below (g := w.heap.size + 1) (below_step hb0 hb) (by omega) (.slice none 0 0) (.slice none 0 0) (.slice none 0 0) (.slice none 0 0) (.slice none 0 0) (.slice none 0 0) (.slice none 0 0)
      refine bodyPost_ret (results_ct rfl _ (put7 w1 (w.heap.size + 1) (.slice none 0 0) (.slice none 0 0) (.slice none 0 0) (.slice none 0 0) (.slice none 0 0) (.slice none 0 0) (.slice none 0 0)) (w.heap.size + 1) 30 #[.slice none 0 0, .slice none 0 0, .slice none 0 0, .slice none 0 0, .slice none 0 0, .slice none 0 0, .slice none 0 0] (0, 0) _ rfl hz Try.underlying30 rfl (by kernel_rfl)) rfl ?_
      refine ⟨_, ?_, by rw [HO.out]; exact k30_zero _, hw⟩
      rw [HE.out]; rfl
    by_cases hkl : x.f2.length ≤ k
    · have HE : Aside0 (extErr x k = 8) := ⟨by rw [extErr, if_neg (fun h => h hv'), if_pos (.inr hkl)]⟩
      have HO : Aside0 (extOf x k = z30) := ⟨by rw [extOf, if_neg (by rw [HE.out]; decide)]⟩
      clear hv'
      go_enter Try.func22, Try.ntmps22
      go_wp2_with (go_at_call 57; refine hc.mono ?_; rintro e w1 ⟨rfl, hb⟩; have z1 := blk_cell (blk_below hZ hb); have z2 := blk_frozen (blk_below hZ hb); have b7 := (HX.step hb).at_)
      have hz := put7_blk (blk_below hZ hb) (.slice none 0 0) (.slice none 0 0) (.slice none 0 0) (.slice none 0 0) (.slice none 0 0) (.slice none 0 0) (.slice none 0 0)
      have hw := put7_below (g := w.heap.size + 1) (below_step hb0 hb) (by omega) (.slice none 0 0) (.slice none 0 0) (.slice none 0 0) (.slice none 0 0) (.slice none 0 0) (.slice none 0 0) (.slice none 0 0)
      refine bodyPost_ret (results_ct rfl _ (put7 w1 (w.heap.size + 1) (.slice none 0 0) (.slice none 0 0) (.slice none 0 0) (.slice none 0 0) (.slice none 0 0) (.slice none 0 0) (.slice none 0 0)) (w.heap.size + 1) 30 #[.slice none 0 0, .slice none 0 0, .slice none 0 0, .slice none 0 0, .slice none 0 0, .slice none 0 0, .slice none 0 0] (0, 0) _ rfl hz Try.underlying30 rfl (by kernel_rfl)) rfl ?_
      refine ⟨_, ?_, by rw [HO.out]; exact k30_zero _, hw⟩
      rw [HE.out]; rfl
    have HE : Aside0 (extErr x k = 0) := ⟨by rw [extErr, if_neg (fun h => h hv'), if_neg (by omega)]⟩
    have HO : Aside0 (extOf x k = cutX x (rd_T64 x.f2 k)) := ⟨by rw [extOf, if_pos HE.out]⟩
    have HV := Aside0.mk (vErr_zero hv')
    clear hv'
    obtain ⟨ad, t, At, ct, rfl, -, ht, q0, q1, q2, q3, lt, gt⟩ := el64 ⟨g2⟩ (bel_refl w) k.toNat (by omega)
    have htt : rd_T64 x.f2 k = t := by rw [rd_T64, List.getD_eq_getElem?_getD, ht.out]; rfl
    rw [htt] at HO
    have htb := texts_in HV.out.2.2.1 t (List.mem_of_getElem? ht.out)
    have hk1 : (0 : Int) ≤ k := by omega
    have hk2 : k < (x.f2.length : Int) := by omega
    go_enter Try.func22, Try.ntmps22
    go_wp2_with (go_at_call 57; refine hc.mono ?_; rintro e w1 ⟨rfl, hb⟩; have b7 := (HX.step hb).at_; have p0 := pw_cell_below (below_step hb0 hb) q0; have p1 := pw_cell_below (below_step hb0 hb) q1; have p2 := pw_cell_below (below_step hb0 hb) q2; have p3 := pw_cell_below (below_step hb0 hb) q3)
    have HX1 : Xs w #[.slice A0 x.f0.length c0, .slice A1 x.f1.length c1, .slice (some ad) x.f2.length c2, .slice A3 x.f3.length c3, .slice A4 x.f4.length c4, .slice A5 x.f5.length c5, .slice A6 x.f6.length c6] w1.heap.size #[.string t.f0, .int .i64 t.f1, .int .i64 t.f2, .slice At t.f3.length ct] (w1.alloc (.cells #[.string t.f0, .int .i64 t.f1, .int .i64 t.f2, .slice At t.f3.length ct] 64)) :=
      ⟨below_alloc (below_step hb0 hb) _, blk_alloc (HX.step hb).blk _, blk_alloc (blk_below hZ hb) _, blk_new _ _, Nat.le_trans hb0.size hb.size⟩
    have hgs : w.heap.size + 1 < w1.heap.size := blk_lt (blk_below hZ hb)
    generalize w1.alloc (.cells #[.string t.f0, .int .i64 t.f1, .int .i64 t.f2, .slice At t.f3.length ct] 64) = W at HX1 ⊢
    generalize w1.heap.size = gT at HX1 hgs ⊢
    clear b7 p0 p1 p2 p3 hb w1 hc HX hZ hb0 q0 q1 q2 q3
    have x0 := blk_cell HX1.c 0
    have t0 := (blk_cell HX1.t 0).trans rfl
    have t1 := (blk_cell HX1.t 1).trans rfl
    have t2 := (blk_cell HX1.t 2).trans rfl
    have t3 := (blk_cell HX1.t 3).trans rfl
    clear x0 t0 t1 t2 t3
    have hgW : gT < W.heap.size := blk_lt HX1.t
    have hpl := pairs_le htb.2.2.2
    have hal : x.f0.length ≤ 8 := attrs_le HV.out.1
    have hnT := toks_le HV.out.2.1
    have hb0 : 0 ≤ t.f1 := htb.1
    have hb1 : t.f1 ≤ t.f2 := Int.le_of_lt htb.2.1
    have hb2 : t.f2 ≤ (c1 : Int) := by have := htb.2.2.1; omega
    have hb3 : t.f1 < t.f2 := htb.2.1
    have hb4 : t.f2 ≤ (x.f1.length : Int) := htb.2.2.1
    have HMeta : Aside0 (k64.K w (shiftT t (-t.f1)) [.string t.f0, .int .i64 0, .int .i64 (t.f2 - t.f1), .slice At t.f3.length ct]) := ⟨by
      have h := k64_mk w (shiftT t (-t.f1)) lt.out gt.out
      simp only [shiftT, Int.add_right_neg] at h ⊢
      rw [Int.sub_eq_add_neg]; exact h⟩
    clear htb lt gt
    obtain ⟨a1, rfl⟩ : ∃ a1, A1 = some a1 := by
      obtain ⟨a1, _, e, _⟩ := Kd.C_get g1 [] 0 (by omega) (by omega)
      exact ⟨a1, e⟩
    have gM := Kd.C_mid g1 (lo := t.f1.toNat) (hi := t.f2.toNat) (c := c1) (by omega) (by omega) (by omega)
    rw [if_neg (by omega), show t.f1.toNat * (Kd.slice 9 Kd.string).sz = t.f1.toNat from Nat.mul_one _] at gM
    have HML : Aside0 ((mid x.f1 t.f1 t.f2).length = t.f2.toNat - t.f1.toNat) := ⟨by rw [mid, List.length_drop, List.length_take]; omega⟩
    have HM : Aside0 ((Kd.slice 9 Kd.string).C w (some (a1.add t.f1.toNat)) (t.f2.toNat - t.f1.toNat) (mid x.f1 t.f1 t.f2)) := ⟨by rw [← HML.out]; exact gM⟩
    have hm8 : t.f2.toNat - t.f1.toNat ≤ 4096 := by omega
    have hne1 : ¬ c1 = t.f1.toNat := by omega
    clear gM
    generalize hM1 : mid x.f1 t.f1 t.f2 = M1 at HML HM
    replace hM1 := Aside0.mk hM1
    have X := HX1.drew
    have hW0 : W.heap.size ≤ W.drew.heap.size := Nat.le_refl _
    refine start_ (n := 14) (S := fun w' => w'.cell? ⟨w.heap.size, 0, none⟩ = some (.slice A0 x.f0.length c0) ∧ w'.cell? ⟨w.heap.size, 1, none⟩ = some (.slice (some a1) x.f1.length c1) ∧ w'.cell? ⟨gT, 1, none⟩ = some (.int .i64 t.f1) ∧ w'.cell? ⟨gT, 2, none⟩ = some (.int .i64 t.f2)) (ds := []) #[false, false, false, false, false, false, false, false, false, false, false, false, false, false] (by kernel_rfl) rfl rfl ⟨(blk_cell X.c 0).trans rfl, (blk_cell X.c 1).trans rfl, (blk_cell X.t 1).trans rfl, (blk_cell X.t 2).trans rfl⟩ (fun hHeld => ?_)
    generalize W.drew = W0 at X hW0 hHeld ⊢
    refine pure_ (i := 0) (N := some 34) (v := ?_) (a' := ?_) #[true, false, false, false, false, false, false, false, false, false, false, false, false, false] rfl rfl (by kernel_rfl) (fun _ _ _ h => h) (Or.inl ⟨by rfl, ?_⟩) ?_ ?_
    rotate_left
    · intro w'
      go_simp
      with_reducible rfl
    rotate_left
    · simp only [Act.put, List.setIfInBounds_toArray, List.set_cons_zero, List.set_cons_succ]
      rfl
    refine pure_ (i := 3) (N := some 37) (v := ?_) (a' := ?_) #[true, false, false, true, false, false, false, false, false, false, false, false, false, false] rfl rfl (by kernel_rfl) (fun _ _ _ h => h) (Or.inl ⟨by rfl, ?_⟩) ?_ ?_
    rotate_left
    · intro w'
      go_simp
      with_reducible rfl
    rotate_left
    · simp only [Act.put, List.setIfInBounds_toArray, List.set_cons_zero, List.set_cons_succ]
      rfl
    refine pure_ (i := 5) (N := some 39) (v := ?_) (a' := ?_) #[true, false, false, true, false, true, false, false, false, false, false, false, false, false] rfl rfl (by kernel_rfl) (fun _ _ _ h => h) (Or.inl ⟨by rfl, ?_⟩) ?_ ?_
    rotate_left
    · intro w'
      go_simp
      with_reducible rfl
    rotate_left
    · simp only [Act.put, List.setIfInBounds_toArray, List.set_cons_zero, List.set_cons_succ]
      rfl
    refine pure_ (i := 7) (N := some 41) (v := ?_) (a' := ?_) #[true, false, false, true, false, true, false, true, false, false, false, false, false, false] rfl rfl (by kernel_rfl) (fun _ _ _ h => h) (Or.inl ⟨by rfl, ?_⟩) ?_ ?_
    rotate_left
    · intro w'
      go_simp
      with_reducible rfl
    rotate_left
    · simp only [Act.put, List.setIfInBounds_toArray, List.set_cons_zero, List.set_cons_succ]
      rfl
    refine take_ (i := 1) (N := some 35) (v := ?_) (a' := ?_) #[true, true, false, true, false, true, false, true, false, false, false, false, false, false] rfl rfl (by kernel_rfl) (fun _ _ _ h => h) (Or.inl ⟨by rfl, ?_⟩) hHeld ?_ ?_
    rotate_left
    · rintro w' ⟨s0, s1, s2, s3⟩
      go_simp
      with_reducible rfl
    rotate_left
    · simp only [Act.put, List.setIfInBounds_toArray, List.set_cons_zero, List.set_cons_succ]
      rfl
    refine take_ (i := 4) (N := some 38) (v := ?_) (a' := ?_) #[true, true, false, true, true, true, false, true, false, false, false, false, false, false] rfl rfl (by kernel_rfl) (fun _ _ _ h => h) (Or.inl ⟨by rfl, ?_⟩) hHeld ?_ ?_
    rotate_left
    · rintro w' ⟨s0, s1, s2, s3⟩
      go_simp
      with_reducible rfl
    rotate_left
    · simp only [Act.put, List.setIfInBounds_toArray, List.set_cons_zero, List.set_cons_succ]
      rfl
    refine take_ (i := 6) (N := some 40) (v := ?_) (a' := ?_) #[true, true, false, true, true, true, true, true, false, false, false, false, false, false] rfl rfl (by kernel_rfl) (fun _ _ _ h => h) (Or.inl ⟨by rfl, ?_⟩) hHeld ?_ ?_
    rotate_left
    · rintro w' ⟨s0, s1, s2, s3⟩
      go_simp
      with_reducible rfl
    rotate_left
    · simp only [Act.put, List.setIfInBounds_toArray, List.set_cons_zero, List.set_cons_succ]
      rfl
    refine take_ (i := 8) (N := some 42) (v := ?_) (a' := ?_) #[true, true, false, true, true, true, true, true, true, false, false, false, false, false] rfl rfl (by kernel_rfl) (fun _ _ _ h => h) (Or.inl ⟨by rfl, ?_⟩) hHeld ?_ ?_
    rotate_left
    · rintro w' ⟨s0, s1, s2, s3⟩
      go_simp
      with_reducible rfl
    rotate_left
    · simp only [Act.put, List.setIfInBounds_toArray, List.set_cons_zero, List.set_cons_succ]
      rfl
    refine pure_ (i := 9) (N := some 43) (v := ?_) (a' := ?_) #[true, true, false, true, true, true, true, true, true, true, false, false, false, false] rfl rfl (by kernel_rfl) (fun _ _ _ h => h) (Or.inl ⟨by rfl, ?_⟩) ?_ ?_
    rotate_left
    · intro w'
      go_simp
      with_reducible rfl
    rotate_left
    · simp only [Act.put, List.setIfInBounds_toArray, List.set_cons_zero, List.set_cons_succ]
      rfl
    refine join_ (σ := (Option Addr × Nat) × (Option Addr × Nat) × Nat) 1 #[true, true, true, true, true, true, true, true, true, true, true, true, true, false] (fun s => [(36, .slice s.1.1 x.f0.length s.1.2), (44, .slice s.2.1.1 (t.f2.toNat - t.f1.toNat) s.2.1.2), (45, .agg #[.slice s.1.1 x.f0.length s.1.2, .slice s.2.1.1 (t.f2.toNat - t.f1.toNat) s.2.1.2, .slice none 0 0, .slice none 0 0, .slice none 0 0, .slice none 0 0, .slice none 0 0]), (7, .pointer (some ⟨s.2.2, 0, none⟩))]) (fun s w' => Xs w #[.slice A0 x.f0.length c0, .slice (some a1) x.f1.length c1, .slice (some ad) x.f2.length c2, .slice A3 x.f3.length c3, .slice A4 x.f4.length c4, .slice A5 x.f5.length c5, .slice A6 x.f6.length c6] gT #[.string t.f0, .int .i64 t.f1, .int .i64 t.f2, .slice At t.f3.length ct] w' ∧ gT < s.2.2 ∧ W0.heap.size ≤ s.2.2 ∧ w'.heap[s.2.2]? = some (.cells #[.slice none 0 0, .slice none 0 0, .slice none 0 0, .slice none 0 0, .slice none 0 0, .slice none 0 0, .slice none 0 0] 30 (0, 0)) ∧ k62.R 62 w' W0.heap.size (fun k => k ≠ s.2.2) (.slice s.1.1 x.f0.length s.1.2) x.f0 ∧ (kS w (Kd.slice 9 Kd.string)).R 28 w' W0.heap.size (fun k => k ≠ s.2.2) (.slice s.2.1.1 (t.f2.toNat - t.f1.toNat) s.2.1.2) M1) ?_ ?_
    rotate_left
    · intro hCont
      refine two_ (i := 2) (j := 12) (Ni := some 36) (Nj := some 7) #[true, true, true, true, true, true, true, true, true, true, false, false, false, false] #[true, true, false, true, true, true, true, true, true, true, false, false, true, false] rfl rfl rfl rfl (by kernel_rfl) (by decide) (by decide) (fun K hK => ?_) (fun K hK => ?_)
      · skip
        refine Kd.R_append_rows_step k62 (Rr := k62.K W0) (w0 := W0) W0.heap.size rfl (.const (.slice none 0 0)) (.tmp 35) 22 62 _ 24 rfl Try.underlying22 info62 rfl (by decide) (by decide) (.slice none 0 0) [] x.f0 A0 x.f0.length c0 (fun _ => True) (fun _ => True) rfl rfl (Kd.R_nil _ _ _ _ _) (Kd.C_below g0 X.be) (fun x cs hx => by obtain rfl := k62_open hx; exact k62_mkM _ _ _ _) (fun k _ => ⟨trivial, by simp [Value.ownBlock]⟩) (fun _ _ => trivial) (Below.refl _ _) (Nat.le_refl _) (by simp; omega) ?_
        intro v2 u2 hR2 _ hg2 _
        rw [List.nil_append] at hR2
        obtain ⟨A2, cc2, rfl⟩ := Kd.R_slice hR2
        have hb := grown_below hg2
        have X := X.step hb
        have sz2 := hb.size
        have r2 := Kd.R_mono (Kd.R_bound hR2) (ok' := fun k => W0.heap.size ≤ k ∧ k < u2.heap.size) (fun k hk => ⟨hk.2.1, hk.2.2.1⟩)
        clear hR2 hg2 hb
        refine hK.out _ _ ⟨(blk_cell X.c 0).trans rfl, (blk_cell X.c 1).trans rfl, (blk_cell X.t 1).trans rfl, (blk_cell X.t 2).trans rfl⟩ (fun hHeld => ?_)
        clear hK K
        refine norm_ (a' := ?_) ?_ ?_
        rotate_left
        · show Act.put _ (some 36) _ = _
          simp only [Act.put, List.setIfInBounds_toArray, List.set_cons_zero, List.set_cons_succ]
          rfl
        refine two_ (i := 10) (j := 12) (Ni := some 44) (Nj := some 7) #[true, true, true, true, true, true, true, true, true, true, true, false, false, false] #[true, true, true, true, true, true, true, true, true, true, false, false, true, false] rfl rfl rfl rfl (by kernel_rfl) (by decide) (by decide) (fun K hK => ?_) (fun K hK => ?_)
        · skip
          refine Kd.R_append_rows_step (kS w (Kd.slice 9 Kd.string)) (Rr := (Kd.slice 9 Kd.string).K w) (w0 := u2) u2.heap.size rfl (.const (.slice none 0 0)) (.tmp 43) 23 28 _ 24 rfl Try.underlying23 info28 rfl (show (0 : Nat) < 1 by decide) (by decide) (.slice none 0 0) [] M1 (some (a1.add t.f1.toNat)) (t.f2.toNat - t.f1.toNat) (c1 - t.f1.toNat) (fun _ => True) (fun _ => True) rfl rfl (Kd.R_nil _ _ _ _ _) (kS_C HM.out X.be) (fun x cs hx => hx) (fun k _ => ⟨trivial, by simp [Value.ownBlock]⟩) (fun _ _ => trivial) (Below.refl _ _) (Nat.le_refl _) (by simp; omega) ?_
          intro v1 u10 hR1 _ hg1 _
          rw [List.nil_append] at hR1
          obtain ⟨A9, cc9, rfl⟩ := Kd.R_slice hR1
          rw [HML.out] at hR1 ⊢
          have hb := grown_below hg1
          have X := X.step hb
          have sz10 := hb.size
          have r2 := Kd.R_below r2 hb
          have r1 := Kd.R_mono (Kd.R_bound hR1) (ok' := fun k => u2.heap.size ≤ k ∧ k < u10.heap.size) (fun k hk => ⟨hk.2.1, hk.2.2.1⟩)
          clear hR1 hg1 hb
          refine hK.out _ _ ⟨(blk_cell X.c 0).trans rfl, (blk_cell X.c 1).trans rfl, (blk_cell X.t 1).trans rfl, (blk_cell X.t 2).trans rfl⟩ (fun hHeld => ?_)
          clear hK K
          refine norm_ (a' := ?_) ?_ ?_
          rotate_left
          · show Act.put _ (some 44) _ = _
            simp only [Act.put, List.setIfInBounds_toArray, List.set_cons_zero, List.set_cons_succ]
            rfl
          refine pure_ (i := 11) (N := some 45) (v := ?_) (a' := ?_) #[true, true, true, true, true, true, true, true, true, true, true, true, false, false] rfl rfl (by kernel_rfl) (fun _ _ _ h => h) (Or.inl ⟨by rfl, ?_⟩) ?_ ?_
          rotate_left
          · intro w'
            go_simp
            with_reducible rfl
          rotate_left
          · simp only [Act.put, List.setIfInBounds_toArray, List.set_cons_zero, List.set_cons_succ]
            rfl
          refine one_ (i := 12) (N := some 7) #[true, true, true, true, true, true, true, true, true, true, true, true, true, false] rfl rfl (by kernel_rfl) (by decide) (fun K hK => ?_)
          refine value_ (w1 := ?_) (v := ?_) (by rfl) rfl ?_ ?_
          rotate_left 2
          · go_simp
            constructor
            · rfl
            · rfl
          change K _ (u10.alloc (.cells #[.slice none 0 0, .slice none 0 0, .slice none 0 0, .slice none 0 0, .slice none 0 0, .slice none 0 0, .slice none 0 0] 30))
          have hb := below_alloc (Below.refl u10.heap.size u10) (.cells #[.slice none 0 0, .slice none 0 0, .slice none 0 0, .slice none 0 0, .slice none 0 0, .slice none 0 0, .slice none 0 0] 30)
          have sz := Nat.le_of_eq (World.size_alloc u10 (.cells #[.slice none 0 0, .slice none 0 0, .slice none 0 0, .slice none 0 0, .slice none 0 0, .slice none 0 0, .slice none 0 0] 30)).symm
          have dz := blk_new u10 (.cells #[.slice none 0 0, .slice none 0 0, .slice none 0 0, .slice none 0 0, .slice none 0 0, .slice none 0 0, .slice none 0 0] 30)
          generalize u10.alloc (.cells #[.slice none 0 0, .slice none 0 0, .slice none 0 0, .slice none 0 0, .slice none 0 0, .slice none 0 0, .slice none 0 0] 30) = u12 at hb sz dz ⊢
          have X := X.step hb
          have sz12 := hb.size
          have r2 := Kd.R_below r2 hb
          have r1 := Kd.R_below r1 hb
          clear hb
          refine hK.out _ _ ⟨(blk_cell X.c 0).trans rfl, (blk_cell X.c 1).trans rfl, (blk_cell X.t 1).trans rfl, (blk_cell X.t 2).trans rfl⟩ (fun hHeld => ?_)
          clear hK K
          refine norm_ (a' := ?_) ?_ ?_
          rotate_left
          · show Act.put _ (some 7) _ = _
            simp only [Act.put, List.setIfInBounds_toArray, List.set_cons_zero, List.set_cons_succ]
            rfl
          exact norm_ (by simp only [putAll, Act.put, List.setIfInBounds_toArray, List.set_cons_zero, List.set_cons_succ]) (hCont ((A2, cc2), (A9, cc9), u10.heap.size) _ ⟨X, by dsimp only; omega, by dsimp only; omega, dz, Kd.R_mono (Kd.R_lower r2 (by omega)) (fun k hk => by dsimp only; omega), Kd.R_mono (Kd.R_lower r1 (by omega)) (fun k hk => by dsimp only; omega)⟩)
        · skip
          refine value_ (w1 := ?_) (v := ?_) (by rfl) rfl ?_ ?_
          rotate_left 2
          · go_simp
            constructor
            · rfl
            · rfl
          change K _ (u2.alloc (.cells #[.slice none 0 0, .slice none 0 0, .slice none 0 0, .slice none 0 0, .slice none 0 0, .slice none 0 0, .slice none 0 0] 30))
          have hb := below_alloc (Below.refl u2.heap.size u2) (.cells #[.slice none 0 0, .slice none 0 0, .slice none 0 0, .slice none 0 0, .slice none 0 0, .slice none 0 0, .slice none 0 0] 30)
          have sz := Nat.le_of_eq (World.size_alloc u2 (.cells #[.slice none 0 0, .slice none 0 0, .slice none 0 0, .slice none 0 0, .slice none 0 0, .slice none 0 0, .slice none 0 0] 30)).symm
          have dz := blk_new u2 (.cells #[.slice none 0 0, .slice none 0 0, .slice none 0 0, .slice none 0 0, .slice none 0 0, .slice none 0 0, .slice none 0 0] 30)
          generalize u2.alloc (.cells #[.slice none 0 0, .slice none 0 0, .slice none 0 0, .slice none 0 0, .slice none 0 0, .slice none 0 0, .slice none 0 0] 30) = u12 at hb sz dz ⊢
          have X := X.step hb
          have sz12 := hb.size
          have r2 := Kd.R_below r2 hb
          clear hb
          refine hK.out _ _ ⟨(blk_cell X.c 0).trans rfl, (blk_cell X.c 1).trans rfl, (blk_cell X.t 1).trans rfl, (blk_cell X.t 2).trans rfl⟩ (fun hHeld => ?_)
          clear hK K
          refine norm_ (a' := ?_) ?_ ?_
          rotate_left
          · show Act.put _ (some 7) _ = _
            simp only [Act.put, List.setIfInBounds_toArray, List.set_cons_zero, List.set_cons_succ]
            rfl
          refine one_ (i := 10) (N := some 44) #[true, true, true, true, true, true, true, true, true, true, true, false, true, false] rfl rfl (by kernel_rfl) (by decide) (fun K hK => ?_)
          refine Kd.R_append_rows_step (kS w (Kd.slice 9 Kd.string)) (Rr := (Kd.slice 9 Kd.string).K w) (w0 := u12) u12.heap.size rfl (.const (.slice none 0 0)) (.tmp 43) 23 28 _ 24 rfl Try.underlying23 info28 rfl (show (0 : Nat) < 1 by decide) (by decide) (.slice none 0 0) [] M1 (some (a1.add t.f1.toNat)) (t.f2.toNat - t.f1.toNat) (c1 - t.f1.toNat) (fun _ => True) (fun _ => True) rfl rfl (Kd.R_nil _ _ _ _ _) (kS_C HM.out X.be) (fun x cs hx => hx) (fun k _ => ⟨trivial, by simp [Value.ownBlock]⟩) (fun _ _ => trivial) (Below.refl _ _) (Nat.le_refl _) (by simp; omega) ?_
          intro v1 u10 hR1 _ hg1 _
          rw [List.nil_append] at hR1
          obtain ⟨A9, cc9, rfl⟩ := Kd.R_slice hR1
          rw [HML.out] at hR1 ⊢
          have hb := grown_below hg1
          have X := X.step hb
          have sz10 := hb.size
          have r2 := Kd.R_below r2 hb
          have dz := blk_below dz hb
          have r1 := Kd.R_mono (Kd.R_bound hR1) (ok' := fun k => u12.heap.size ≤ k ∧ k < u10.heap.size) (fun k hk => ⟨hk.2.1, hk.2.2.1⟩)
          clear hR1 hg1 hb
          refine hK.out _ _ ⟨(blk_cell X.c 0).trans rfl, (blk_cell X.c 1).trans rfl, (blk_cell X.t 1).trans rfl, (blk_cell X.t 2).trans rfl⟩ (fun hHeld => ?_)
          clear hK K
          refine norm_ (a' := ?_) ?_ ?_
          rotate_left
          · show Act.put _ (some 44) _ = _
            simp only [Act.put, List.setIfInBounds_toArray, List.set_cons_zero, List.set_cons_succ]
            rfl
          refine pure_ (i := 11) (N := some 45) (v := ?_) (a' := ?_) #[true, true, true, true, true, true, true, true, true, true, true, true, true, false] rfl rfl (by kernel_rfl) (fun _ _ _ h => h) (Or.inl ⟨by rfl, ?_⟩) ?_ ?_
          rotate_left
          · intro w'
            go_simp
            with_reducible rfl
          rotate_left
          · simp only [Act.put, List.setIfInBounds_toArray, List.set_cons_zero, List.set_cons_succ]
            rfl
          exact norm_ (by simp only [putAll, Act.put, List.setIfInBounds_toArray, List.set_cons_zero, List.set_cons_succ]) (hCont ((A2, cc2), (A9, cc9), u2.heap.size) _ ⟨X, by dsimp only; omega, by dsimp only; omega, dz, Kd.R_mono (Kd.R_lower r2 (by omega)) (fun k hk => by dsimp only; omega), Kd.R_mono (Kd.R_lower r1 (by omega)) (fun k hk => by dsimp only; omega)⟩)
      · skip
        refine value_ (w1 := ?_) (v := ?_) (by rfl) rfl ?_ ?_
        rotate_left 2
        · go_simp
          constructor
          · rfl
          · rfl
        change K _ (W0.alloc (.cells #[.slice none 0 0, .slice none 0 0, .slice none 0 0, .slice none 0 0, .slice none 0 0, .slice none 0 0, .slice none 0 0] 30))
        have hb := below_alloc (Below.refl W0.heap.size W0) (.cells #[.slice none 0 0, .slice none 0 0, .slice none 0 0, .slice none 0 0, .slice none 0 0, .slice none 0 0, .slice none 0 0] 30)
        have sz := Nat.le_of_eq (World.size_alloc W0 (.cells #[.slice none 0 0, .slice none 0 0, .slice none 0 0, .slice none 0 0, .slice none 0 0, .slice none 0 0, .slice none 0 0] 30)).symm
        have dz := blk_new W0 (.cells #[.slice none 0 0, .slice none 0 0, .slice none 0 0, .slice none 0 0, .slice none 0 0, .slice none 0 0, .slice none 0 0] 30)
        generalize W0.alloc (.cells #[.slice none 0 0, .slice none 0 0, .slice none 0 0, .slice none 0 0, .slice none 0 0, .slice none 0 0, .slice none 0 0] 30) = u12 at hb sz dz ⊢
        have X := X.step hb
        have sz12 := hb.size
        clear hb
        refine hK.out _ _ ⟨(blk_cell X.c 0).trans rfl, (blk_cell X.c 1).trans rfl, (blk_cell X.t 1).trans rfl, (blk_cell X.t 2).trans rfl⟩ (fun hHeld => ?_)
        clear hK K
        refine norm_ (a' := ?_) ?_ ?_
        rotate_left
        · show Act.put _ (some 7) _ = _
          simp only [Act.put, List.setIfInBounds_toArray, List.set_cons_zero, List.set_cons_succ]
          rfl
        refine one_ (i := 2) (N := some 36) #[true, true, true, true, true, true, true, true, true, true, false, false, true, false] rfl rfl (by kernel_rfl) (by decide) (fun K hK => ?_)
        refine Kd.R_append_rows_step k62 (Rr := k62.K u12) (w0 := u12) u12.heap.size rfl (.const (.slice none 0 0)) (.tmp 35) 22 62 _ 24 rfl Try.underlying22 info62 rfl (by decide) (by decide) (.slice none 0 0) [] x.f0 A0 x.f0.length c0 (fun _ => True) (fun _ => True) rfl rfl (Kd.R_nil _ _ _ _ _) (Kd.C_below g0 X.be) (fun x cs hx => by obtain rfl := k62_open hx; exact k62_mkM _ _ _ _) (fun k _ => ⟨trivial, by simp [Value.ownBlock]⟩) (fun _ _ => trivial) (Below.refl _ _) (Nat.le_refl _) (by simp; omega) ?_
        intro v2 u2 hR2 _ hg2 _
        rw [List.nil_append] at hR2
        obtain ⟨A2, cc2, rfl⟩ := Kd.R_slice hR2
        have hb := grown_below hg2
        have X := X.step hb
        have sz2 := hb.size
        have dz := blk_below dz hb
        have r2 := Kd.R_mono (Kd.R_bound hR2) (ok' := fun k => u12.heap.size ≤ k ∧ k < u2.heap.size) (fun k hk => ⟨hk.2.1, hk.2.2.1⟩)
        clear hR2 hg2 hb
        refine hK.out _ _ ⟨(blk_cell X.c 0).trans rfl, (blk_cell X.c 1).trans rfl, (blk_cell X.t 1).trans rfl, (blk_cell X.t 2).trans rfl⟩ (fun hHeld => ?_)
        clear hK K
        refine norm_ (a' := ?_) ?_ ?_
        rotate_left
        · show Act.put _ (some 36) _ = _
          simp only [Act.put, List.setIfInBounds_toArray, List.set_cons_zero, List.set_cons_succ]
          rfl
        refine one_ (i := 10) (N := some 44) #[true, true, true, true, true, true, true, true, true, true, true, false, true, false] rfl rfl (by kernel_rfl) (by decide) (fun K hK => ?_)
        refine Kd.R_append_rows_step (kS w (Kd.slice 9 Kd.string)) (Rr := (Kd.slice 9 Kd.string).K w) (w0 := u2) u2.heap.size rfl (.const (.slice none 0 0)) (.tmp 43) 23 28 _ 24 rfl Try.underlying23 info28 rfl (show (0 : Nat) < 1 by decide) (by decide) (.slice none 0 0) [] M1 (some (a1.add t.f1.toNat)) (t.f2.toNat - t.f1.toNat) (c1 - t.f1.toNat) (fun _ => True) (fun _ => True) rfl rfl (Kd.R_nil _ _ _ _ _) (kS_C HM.out X.be) (fun x cs hx => hx) (fun k _ => ⟨trivial, by simp [Value.ownBlock]⟩) (fun _ _ => trivial) (Below.refl _ _) (Nat.le_refl _) (by simp; omega) ?_
        intro v1 u10 hR1 _ hg1 _
        rw [List.nil_append] at hR1
        obtain ⟨A9, cc9, rfl⟩ := Kd.R_slice hR1
        rw [HML.out] at hR1 ⊢
        have hb := grown_below hg1
        have X := X.step hb
        have sz10 := hb.size
        have r2 := Kd.R_below r2 hb
        have dz := blk_below dz hb
        have r1 := Kd.R_mono (Kd.R_bound hR1) (ok' := fun k => u2.heap.size ≤ k ∧ k < u10.heap.size) (fun k hk => ⟨hk.2.1, hk.2.2.1⟩)
        clear hR1 hg1 hb
        refine hK.out _ _ ⟨(blk_cell X.c 0).trans rfl, (blk_cell X.c 1).trans rfl, (blk_cell X.t 1).trans rfl, (blk_cell X.t 2).trans rfl⟩ (fun hHeld => ?_)
        clear hK K
        refine norm_ (a' := ?_) ?_ ?_
        rotate_left
        · show Act.put _ (some 44) _ = _
          simp only [Act.put, List.setIfInBounds_toArray, List.set_cons_zero, List.set_cons_succ]
          rfl
        refine pure_ (i := 11) (N := some 45) (v := ?_) (a' := ?_) #[true, true, true, true, true, true, true, true, true, true, true, true, true, false] rfl rfl (by kernel_rfl) (fun _ _ _ h => h) (Or.inl ⟨by rfl, ?_⟩) ?_ ?_
        rotate_left
        · intro w'
          go_simp
          with_reducible rfl
        rotate_left
        · simp only [Act.put, List.setIfInBounds_toArray, List.set_cons_zero, List.set_cons_succ]
          rfl
        exact norm_ (by simp only [putAll, Act.put, List.setIfInBounds_toArray, List.set_cons_zero, List.set_cons_succ]) (hCont ((A2, cc2), (A9, cc9), W0.heap.size) _ ⟨X, by dsimp only; omega, by dsimp only; omega, dz, Kd.R_mono (Kd.R_lower r2 (by omega)) (fun k hk => by dsimp only; omega), Kd.R_mono (Kd.R_lower r1 (by omega)) (fun k hk => by dsimp only; omega)⟩)
    rintro ⟨⟨A2, cc2⟩, ⟨A9, cc9⟩, gd⟩ w1 ⟨X, hgd1, hgd0, dz, r2, r1⟩
    dsimp only at X hgd1 hgd0 dz r2 r1
    have hHeld : w1.cell? ⟨w.heap.size, 0, none⟩ = some (.slice A0 x.f0.length c0) ∧ w1.cell? ⟨w.heap.size, 1, none⟩ = some (.slice (some a1) x.f1.length c1) ∧ w1.cell? ⟨gT, 1, none⟩ = some (.int .i64 t.f1) ∧ w1.cell? ⟨gT, 2, none⟩ = some (.int .i64 t.f2) := ⟨(blk_cell X.c 0).trans rfl, (blk_cell X.c 1).trans rfl, (blk_cell X.t 1).trans rfl, (blk_cell X.t 2).trans rfl⟩
    dsimp only
    refine norm_ (a' := ?_) ?_ ?_
    rotate_left
    · simp only [putAll, Act.put, List.setIfInBounds_toArray, List.set_cons_zero, List.set_cons_succ]
      rfl
    refine one_ (i := 13) (N := none) #[true, true, true, true, true, true, true, true, true, true, true, true, true, true] rfl rfl (by kernel_rfl) (by decide) (fun K hK => ?_)
    have zc0 := (blk_cell dz 0).trans rfl
    have zc1 := (blk_cell dz 1).trans rfl
    have zc2 := (blk_cell dz 2).trans rfl
    have zc3 := (blk_cell dz 3).trans rfl
    have zc4 := (blk_cell dz 4).trans rfl
    have zc5 := (blk_cell dz 5).trans rfl
    have zc6 := (blk_cell dz 6).trans rfl
    have zf0 := blk_frozen dz 0
    have zf1 := blk_frozen dz 1
    have zf2 := blk_frozen dz 2
    have zf3 := blk_frozen dz 3
    have zf4 := blk_frozen dz 4
    have zf5 := blk_frozen dz 5
    have zf6 := blk_frozen dz 6
    refine skip_ (w1 := ?_) (by rfl) rfl ?_ ?_
    rotate_left
    · go_simp
      rfl
    clear zc0 zf0 zc1 zf1 zc2 zf2 zc3 zf3 zc4 zf4 zc5 zf5 zc6 zf6
    change K _ (put7 w1 gd (.slice A2 x.f0.length cc2) (.slice A9 (t.f2.toNat - t.f1.toNat) cc9) (.slice none 0 0) (.slice none 0 0) (.slice none 0 0) (.slice none 0 0) (.slice none 0 0))
    replace X := X.put7 (g' := gd) (by omega) (by omega) (.slice A2 x.f0.length cc2) (.slice A9 (t.f2.toNat - t.f1.toNat) cc9) (.slice none 0 0) (.slice none 0 0) (.slice none 0 0) (.slice none 0 0) (.slice none 0 0)
    replace r2 := R_put7 r2 (g := gd) (fun _ h => h) (.slice A2 x.f0.length cc2) (.slice A9 (t.f2.toNat - t.f1.toNat) cc9) (.slice none 0 0) (.slice none 0 0) (.slice none 0 0) (.slice none 0 0) (.slice none 0 0)
    replace r1 := R_put7 r1 (g := gd) (fun _ h => h) (.slice A2 x.f0.length cc2) (.slice A9 (t.f2.toNat - t.f1.toNat) cc9) (.slice none 0 0) (.slice none 0 0) (.slice none 0 0) (.slice none 0 0) (.slice none 0 0)
    replace dz := put7_blk dz (.slice A2 x.f0.length cc2) (.slice A9 (t.f2.toNat - t.f1.toNat) cc9) (.slice none 0 0) (.slice none 0 0) (.slice none 0 0) (.slice none 0 0) (.slice none 0 0)
    generalize put7 w1 gd (.slice A2 x.f0.length cc2) (.slice A9 (t.f2.toNat - t.f1.toNat) cc9) (.slice none 0 0) (.slice none 0 0) (.slice none 0 0) (.slice none 0 0) (.slice none 0 0) = W1 at X r2 r1 dz ⊢
    refine hK.out _ _ ⟨(blk_cell X.c 0).trans rfl, (blk_cell X.c 1).trans rfl, (blk_cell X.t 1).trans rfl, (blk_cell X.t 2).trans rfl⟩ (fun hHeld => ?_)
    clear hK K
    refine done_ (by kernel_rfl) ?_
    have hgd : gT < gd := hgd1
    have hgW0 : gT < W0.heap.size := by omega
    have hwd : w.heap.size + 1 < gd := by omega
    have hWs : w.heap.size ≤ W1.heap.size := X.be.size
    have hgdW : gd < W1.heap.size := blk_lt dz
    clear hHeld hW0 hgW HX1
    have y10 := (blk_cell X.t 0).trans rfl
    have y11 := (blk_cell X.t 1).trans rfl
    have y12 := (blk_cell X.t 2).trans rfl
    have y13 := (blk_cell X.t 3).trans rfl
    have yf1 := blk_frozen X.t 1
    have yf2 := blk_frozen X.t 2
    go_upto_region 9 with fail
    have X8 := (X.putT hgs 1 (.int .i64 0) rfl).putT hgs 2 (.int .i64 (t.f2 - t.f1)) rfl
    have dz8 := blk_far (blk_far dz (p := ⟨gT, 1, none⟩) (by simp; omega) (.int .i64 0)) (p := ⟨gT, 2, none⟩) (by simp; omega) (.int .i64 (t.f2 - t.f1))
    have r28 := Kd.R_far (p := ⟨gT, 2, none⟩) (Kd.R_far (p := ⟨gT, 1, none⟩) (Kd.R_mono (Kd.R_bound r2) (ok' := fun k => k ≠ gd ∧ k ≠ gT) (fun k hk => ⟨hk.1, by have := hk.2.1; omega⟩)) (fun _ h => h.2) (.int .i64 0)) (fun _ h => h.2) (.int .i64 (t.f2 - t.f1))
    have r18 := Kd.R_far (p := ⟨gT, 2, none⟩) (Kd.R_far (p := ⟨gT, 1, none⟩) (Kd.R_mono (Kd.R_bound r1) (ok' := fun k => k ≠ gd ∧ k ≠ gT) (fun k hk => ⟨hk.1, by have := hk.2.1; omega⟩)) (fun _ h => h.2) (.int .i64 0)) (fun _ h => h.2) (.int .i64 (t.f2 - t.f1))
    generalize World.setCell (World.setCell W1 ⟨gT, 1, none⟩ (.int .i64 0)) ⟨gT, 2, none⟩ (.int .i64 (t.f2 - t.f1)) = W8 at X8 dz8 r28 r18 ⊢
    clear y10 y11 y12 y13 yf1 yf2 X dz r2 r1
    have hgdW8 : gd < W8.heap.size := blk_lt dz8
    have hWs8 : w.heap.size ≤ W8.heap.size := X8.be.size
    have y10 := (blk_cell X8.t 0).trans rfl
    have y11 := (blk_cell X8.t 1).trans rfl
    have y12 := (blk_cell X8.t 2).trans rfl
    have y13 := (blk_cell X8.t 3).trans rfl
    have z2 := (blk_cell dz8 2).trans rfl
    have zf2 := blk_frozen dz8 2
    have hba : Below (W8.setCell ⟨gd, 2, none⟩ (.slice (some ⟨W8.heap.size, 0, none⟩) 1 1)).heap.size (W8.setCell ⟨gd, 2, none⟩ (.slice (some ⟨W8.heap.size, 0, none⟩) 1 1)) ((W8.setCell ⟨gd, 2, none⟩ (.slice (some ⟨W8.heap.size, 0, none⟩) 1 1)).alloc (.cells #[.string t.f0, .int .i64 0, .int .i64 (t.f2 - t.f1), .slice At t.f3.length ct] 64)) := below_alloc (Below.refl _ _) _
    have hse : (W8.setCell ⟨gd, 2, none⟩ (.slice (some ⟨W8.heap.size, 0, none⟩) 1 1)).heap.size = W8.heap.size := by simp
    have hgdn : gd ≠ W8.heap.size := by omega
    go_upto_region 10 with fail
    have X9 := (X8.set_ (g' := gd) (j := 2) (by omega) (by omega) (.slice (some ⟨W8.heap.size, 0, none⟩) 1 1)).alloc (.cells #[.string t.f0, .int .i64 0, .int .i64 (t.f2 - t.f1), .slice At t.f3.length ct] 64)
    have dz9 := blk_alloc (blk_put dz8 2 (.slice (some ⟨W8.heap.size, 0, none⟩) 1 1) (cs' := #[.slice A2 x.f0.length cc2, .slice A9 (t.f2.toNat - t.f1.toNat) cc9, .slice (some ⟨W8.heap.size, 0, none⟩) 1 1, .slice none 0 0, .slice none 0 0, .slice none 0 0, .slice none 0 0]) rfl) (.cells #[.string t.f0, .int .i64 0, .int .i64 (t.f2 - t.f1), .slice At t.f3.length ct] 64)
    have r29 := Kd.R_below (Kd.R_far (p := ⟨gd, 2, none⟩) (Kd.R_mono r28 (ok' := fun k => k ≠ gd) (fun _ h => h.1)) (fun _ h => h) (.slice (some ⟨W8.heap.size, 0, none⟩) 1 1)) hba
    have r19 := Kd.R_below (Kd.R_far (p := ⟨gd, 2, none⟩) (Kd.R_mono r18 (ok' := fun k => k ≠ gd) (fun _ h => h.1)) (fun _ h => h) (.slice (some ⟨W8.heap.size, 0, none⟩) 1 1)) hba
    have r89 := Kd.R_mono (R_one (kS w k64) 64 (W8.setCell ⟨gd, 2, none⟩ (.slice (some ⟨W8.heap.size, 0, none⟩) 1 1)) W8.heap.size (shiftT t (-t.f1)) [.string t.f0, .int .i64 0, .int .i64 (t.f2 - t.f1), .slice At t.f3.length ct] (ok := fun _ => False) HMeta.out (Nat.le_of_eq hse.symm)) (ok' := fun k => k ≠ gd) (fun k hk => hk.elim (fun h => h.1.elim) (fun h => by omega))
    rw [hse] at r89
    generalize (W8.setCell ⟨gd, 2, none⟩ (.slice (some ⟨W8.heap.size, 0, none⟩) 1 1)).alloc (.cells #[.string t.f0, .int .i64 0, .int .i64 (t.f2 - t.f1), .slice At t.f3.length ct] 64) = W2 at X9 dz9 r29 r19 r89 ⊢
    clear hba hse hgdn
    clear X8 dz8 r28 r18 y10 y11 y12 y13 z2 zf2 hgdW hWs hWs8
    generalize W8.heap.size = g8 at dz9 r89 hgdW8
    have HG := Aside0.mk (regs_ok HV.out.2.2.2.1)
    have hg3l := HG.out.1
    have HG3 : Aside0 (k39.C w A3 x.f3.length x.f3) := ⟨g3⟩
    have hWs2 : w.heap.size ≤ W2.heap.size := X9.be.size
    have hgdW2 : gd < W2.heap.size := blk_lt dz9
    have y3 := (blk_cell X9.c 3).trans rfl
    go_wp2
    go_loopw [60] (fun i W3 => ∃ (kk : Nat) (lp : List S39) (Av : Option Addr) (cv : Nat), kk ≤ x.f3.length ∧ i = .int .i64 kk ∧ Aside0 (cutR t x.f3 = lp ++ cutR t (x.f3.drop kk)) ∧ Aside0 (lp.length ≤ kk) ∧ St w W2 gd #[.slice A2 x.f0.length cc2, .slice A9 (t.f2.toNat - t.f1.toNat) cc9, .slice (some ⟨g8, 0, none⟩) 1 1, .slice Av lp.length cv, .slice none 0 0, .slice none 0 0, .slice none 0 0] W3 ∧ Aside0 ((kS w k39).R 39 W3 W2.heap.size (fun b => b ≠ gd) (.slice Av lp.length cv) lp)) (fun i _ => x.f3.length - (intOf i).toNat)
    case atStart => exact ⟨0, [], none, 0, Nat.zero_le _, rfl, ⟨by simp⟩, ⟨Nat.le_refl _⟩, St.refl X9 dz9, ⟨Kd.R_nil _ _ _ _ _⟩⟩
    case round =>
      rename World => W3
      clear y3
      obtain ⟨kk, lp, Av, cv, hkk, rfl, HLP, HLL, HS, HR⟩ := hrel
      have HX := HS.xs X9 hwd (by omega)
      have hsz := HS.size
      by_cases hlt : kk < x.f3.length
      · obtain ⟨a3, r, Ar, cr, rfl, hdr, hrr, q0, q1, q2, q3, lr, gr⟩ := el39 HG3 ⟨HX.be⟩ kk hlt
        have hrg1 := (HG.out.2 r (List.mem_of_getElem? hrr.out)).1
        have y12 := (blk_cell HX.t 2).trans rfl
        have hgT3 : gT < W3.heap.size := blk_lt HX.t
        by_cases hi1 : t.f1 ≤ r.f1
        · by_cases hi2 : r.f2 ≤ t.f2
          · have HC : Aside0 (cutR t x.f3 = (lp ++ [shiftR r (-t.f1)]) ++ cutR t (x.f3.drop (kk + 1))) := ⟨by rw [HLP.out, hdr.out, cutR, List.filter_cons_of_pos (by simp [insR, hi1, hi2]), List.append_assoc]; rfl⟩
            have hi3 : r.f2 ≤ t.f1 + (t.f2 - t.f1) := by omega
            go_upto_region 15 with fail
            have hbw := below_alloc (Below.refl W3.heap.size W3) (.cells #[.string r.f0, .int .i64 (r.f1 - t.f1), .int .i64 (r.f2 - t.f1), .slice Ar r.f3.length cr] 39)
            have hbx := blk_new W3 (.cells #[.string r.f0, .int .i64 (r.f1 - t.f1), .int .i64 (r.f2 - t.f1), .slice Ar r.f3.length cr] 39)
            generalize W3.alloc (.cells #[.string r.f0, .int .i64 (r.f1 - t.f1), .int .i64 (r.f2 - t.f1), .slice Ar r.f3.length cr] 39) = U0 at hbw hbx ⊢
            have HS0 := HS.step hbw
            have HR0 := Kd.R_below HR.out hbw
            have z3 := (blk_cell HS0.d 3).trans rfl
            have x0 := (blk_cell hbx 0).trans rfl
            have x1 := (blk_cell hbx 1).trans rfl
            have x2 := (blk_cell hbx 2).trans rfl
            have x3 := (blk_cell hbx 3).trans rfl
            have hbase : ∀ b, (Value.slice Av lp.length cv).ownBlock = some b → W2.heap.size ≤ b := (Kd.R_own HR.out).elim fun _ h => own_base h
            have hszU := HS0.size
            have hK : Aside0 (k39.K w (shiftR r (-t.f1)) [.string r.f0, .int .i64 (r.f1 - t.f1), .int .i64 (r.f2 - t.f1), .slice Ar r.f3.length cr]) := ⟨by
              have h := k39_mk w (shiftR r (-t.f1)) lr.out gr.out
              simp only [shiftR, ← Int.sub_eq_add_neg] at h ⊢
              exact h⟩
            go_wp2_with (at_builtin; refine Kd.R_append (kS w k39) (w0 := U0) (W := U0) W2.heap.size rfl (.tmp 88) (.tmp 90) 25 39 _ 56 rfl Try.underlying25 info39 rfl (show (0 : Nat) < 4 by decide) (by decide) (.slice Av lp.length cv) lp (shiftR r (-t.f1)) [.string r.f0, .int .i64 (r.f1 - t.f1), .int .i64 (r.f2 - t.f1), .slice Ar r.f3.length cr] (fun b => b ≠ gd) (fun _ => False) rfl rfl hK.out (fun _ h => h.elim) (fun b hb => by omega) HR0 (Below.refl _ _) hszU (by have := HLL.out; omega) ?_; intro v7 W7 hR7 _ hg7 _; generalize hlq : lp ++ [shiftR r (-t.f1)] = lq at hR7; replace hlq := Aside0.mk hlq; obtain ⟨A7, c7, rfl⟩ := Kd.R_slice hR7; have HS7 := HS0.grown hg7 hbase hWs2 hgdW2; have z7 := (blk_cell HS7.d 3).trans rfl; have zf7 := blk_frozen HS7.d 3)
            go_roundw
            case rel => exact ⟨kk + 1, lq, A7, c7, by omega, by go_num, ⟨by rw [← hlq.out]; exact HC.out⟩, ⟨by have := HLL.out; rw [← hlq.out, List.length_append, List.length_singleton]; omega⟩, HS7.put (by omega) 3 _ rfl, ⟨Kd.R_far (p := ⟨gd, 3, none⟩) hR7 (fun _ h => h) _⟩⟩
            case measure => simp [intOf]; omega
          · have HC : Aside0 (cutR t x.f3 = lp ++ cutR t (x.f3.drop (kk + 1))) := ⟨by rw [HLP.out, hdr.out, cutR, List.filter_cons_of_neg (by simp [insR, hi1, hi2])]; rfl⟩
            have hi3 : ¬ r.f2 ≤ t.f1 + (t.f2 - t.f1) := by omega
            go_wp2
            go_roundw
            case rel => exact ⟨kk + 1, lp, Av, cv, by omega, by go_num, HC, ⟨by have := HLL.out; omega⟩, HS.alloc _, ⟨Kd.R_below HR.out (below_alloc (Below.refl _ _) _)⟩⟩
            case measure => simp [intOf]; omega
        · have HC : Aside0 (cutR t x.f3 = lp ++ cutR t (x.f3.drop (kk + 1))) := ⟨by rw [HLP.out, hdr.out, cutR, List.filter_cons_of_neg (by simp [insR, hi1])]; rfl⟩
          go_wp2
          go_roundw
          case rel => exact ⟨kk + 1, lp, Av, cv, by omega, by go_num, HC, ⟨by have := HLL.out; omega⟩, HS.alloc _, ⟨Kd.R_below HR.out (below_alloc (Below.refl _ _) _)⟩⟩
          case measure => simp [intOf]; omega
      · obtain rfl : kk = x.f3.length := by omega
        have HLP' : lp = cutR t x.f3 := by
          have h : cutR t x.f3 = lp ++ [] := by have h := HLP.out; rwa [List.drop_eq_nil_of_le (Nat.le_refl _)] at h
          rw [List.append_nil] at h; exact h.symm
        subst HLP'
        have r3 := HR.out
        have r1 := Kd.R_keep r19 HS.kp (fun _ h => h)
        have r2 := Kd.R_keep r29 HS.kp (fun _ h => h)
        have r8 := Kd.R_keep r89 HS.kp (fun _ h => h)
        have X3 := HX
        have dz3 := HS.d
        have hWs3 : w.heap.size ≤ W3.heap.size := HS.be.size
        have hgdW3 : gd < W3.heap.size := blk_lt dz3
        clear HR HLP HLL HS HX hsz r19 r29 r89 X9 dz9 hWs2
        generalize hLC : cutR t x.f3 = L3 at *
        replace hLC := Aside0.mk hLC
        generalize Av = Av3 at *
        generalize cv = cv3 at *
        have HN := Aside0.mk (nodes_ok HV.out.2.2.2.2.1)
        have hg4l := HN.out.1
        have HG4 : Aside0 (k74.C w A4 x.f4.length x.f4) := ⟨g4⟩
        have y4 := (blk_cell X3.c 4).trans rfl
        go_wp2
        go_loopw [11, 97] (fun fv i W4 => ∃ (kk : Nat) (f : Int) (lp : List S74) (Av : Option Addr) (cv : Nat), kk ≤ x.f4.length ∧ fv = .int .i64 f ∧ i = .int .i64 kk ∧ -1 ≤ f ∧ f ≤ kk ∧ Aside0 (cutN2 t x.f4 (-1) 0 = lp ++ cutN2 t (x.f4.drop kk) f kk) ∧ Aside0 (lp.length ≤ kk) ∧ St w W3 gd #[.slice A2 x.f0.length cc2, .slice A9 (t.f2.toNat - t.f1.toNat) cc9, .slice (some ⟨g8, 0, none⟩) 1 1, .slice Av3 L3.length cv3, .slice Av lp.length cv, .slice none 0 0, .slice none 0 0] W4 ∧ Aside0 (k74.R 74 W4 W3.heap.size (fun b => b ≠ gd) (.slice Av lp.length cv) lp)) (fun _ i _ => x.f4.length - (intOf i).toNat)
        case atStart => exact ⟨0, -1, [], none, 0, Nat.zero_le _, rfl, rfl, Int.le_refl _, by decide, ⟨by simp⟩, ⟨Nat.le_refl _⟩, St.refl X3 dz3, ⟨Kd.R_nil _ _ _ _ _⟩⟩
        case round =>
          rename World => W4
          clear y4
          obtain ⟨kk, f, lp, Av, cv, hkk, rfl, rfl, hf0, hf1, HLP, HLL, HS, HR⟩ := hrel
          have HX := HS.xs X3 hwd (by omega)
          have hsz := HS.size
          by_cases hlt : kk < x.f4.length
          · obtain ⟨a4, nd, rfl, hdr, hrr, q0, q1, q2, q3⟩ := el74 HG4 ⟨HX.be⟩ kk hlt
            have hrg := HN.out.2 kk nd hrr.out
            have hrg1 := hrg.1
            have hrg2 := hrg.2.1
            have hrg3 := hrg.2.2
            clear hrg
            have y12 := (blk_cell HX.t 2).trans rfl
            have hgT3 : gT < W4.heap.size := blk_lt HX.t
            by_cases hi1 : nd.f1 < t.f1
            · have HC : Aside0 (cutN2 t x.f4 (-1) 0 = lp ++ cutN2 t (x.f4.drop (kk + 1)) f (kk + 1)) := ⟨by rw [HLP.out, hdr.out, cutN2, if_pos (.inl hi1)]⟩
              go_wp2
              go_roundw
              case rel => exact ⟨kk + 1, f, lp, Av, cv, by omega, rfl, by go_num, by omega, by omega, HC, ⟨by have := HLL.out; omega⟩, HS.alloc _, ⟨Kd.R_below HR.out (below_alloc (Below.refl _ _) _)⟩⟩
              case measure => simp [intOf]; omega
            by_cases hi2 : t.f2 < nd.f2
            · have HC : Aside0 (cutN2 t x.f4 (-1) 0 = lp ++ cutN2 t (x.f4.drop (kk + 1)) f (kk + 1)) := ⟨by rw [HLP.out, hdr.out, cutN2, if_pos (.inr hi2)]⟩
              have hi3 : t.f1 + (t.f2 - t.f1) < nd.f2 := by omega
              go_wp2
              go_roundw
              case rel => exact ⟨kk + 1, f, lp, Av, cv, by omega, rfl, by go_num, by omega, by omega, HC, ⟨by have := HLL.out; omega⟩, HS.alloc _, ⟨Kd.R_below HR.out (below_alloc (Below.refl _ _) _)⟩⟩
              case measure => simp [intOf]; omega
            have hi3 : ¬ t.f1 + (t.f2 - t.f1) < nd.f2 := by omega
            have hi4 : t.f1 ≤ nd.f1 := by omega
            have HC := Aside0.mk (HLP.out.trans (by rw [hdr.out, cutN2, if_neg (fun h => h.elim hi1 hi2), shiftN, ← Int.sub_eq_add_neg, ← Int.sub_eq_add_neg, ← Int.sub_eq_add_neg] : _ = lp ++ (⟨nd.f0, nd.f1 - t.f1, nd.f2 - t.f1, if 0 ≤ nd.f3 then nd.f3 - (if f < 0 then (kk : Int) else f) else nd.f3⟩ : S74) :: cutN2 t (x.f4.drop (kk + 1)) (if f < 0 then (kk : Int) else f) (kk + 1)))
            clear HLP hdr
            by_cases hfn : f < 0
            · replace HC := Aside0.mk (HC.out.trans (by rw [if_pos hfn]))
              by_cases hp0 : 0 ≤ nd.f3
              · replace HC := Aside0.mk (HC.out.trans (by rw [if_pos hp0]))
                go_upto_region 27 with fail
                have hbw := below_alloc (Below.refl W4.heap.size W4) (.cells #[.string nd.f0, .int .i64 (nd.f1 - t.f1), .int .i64 (nd.f2 - t.f1), .int .i64 (nd.f3 - (kk : Int))] 74)
                have hbx := blk_new W4 (.cells #[.string nd.f0, .int .i64 (nd.f1 - t.f1), .int .i64 (nd.f2 - t.f1), .int .i64 (nd.f3 - (kk : Int))] 74)
                generalize W4.alloc (.cells #[.string nd.f0, .int .i64 (nd.f1 - t.f1), .int .i64 (nd.f2 - t.f1), .int .i64 (nd.f3 - (kk : Int))] 74) = U0 at hbw hbx ⊢
                have HS0 := HS.step hbw
                have HR0 := Kd.R_below HR.out hbw
                have z4 := (blk_cell HS0.d 4).trans rfl
                have x0 := (blk_cell hbx 0).trans rfl
                have x1 := (blk_cell hbx 1).trans rfl
                have x2 := (blk_cell hbx 2).trans rfl
                have x3 := (blk_cell hbx 3).trans rfl
                have hbase : ∀ b, (Value.slice Av lp.length cv).ownBlock = some b → W3.heap.size ≤ b := (Kd.R_own HR.out).elim fun _ h => own_base h
                have hszU := HS0.size
                go_wp2_with (at_builtin; refine Kd.R_append k74 (w0 := U0) (W := U0) W3.heap.size rfl (.tmp 137) (.tmp 139) 26 74 _ 40 rfl Try.underlying26 info74 rfl (by decide) (by decide) (.slice Av lp.length cv) lp (⟨nd.f0, nd.f1 - t.f1, nd.f2 - t.f1, (nd.f3 - (kk : Int))⟩ : S74) [.string nd.f0, .int .i64 (nd.f1 - t.f1), .int .i64 (nd.f2 - t.f1), .int .i64 (nd.f3 - (kk : Int))] (fun b => b ≠ gd) (fun _ => False) rfl rfl (k74_mkM _ _ _ (⟨nd.f0, nd.f1 - t.f1, nd.f2 - t.f1, (nd.f3 - (kk : Int))⟩ : S74)) (fun _ h => h.elim) (fun b hb => by omega) HR0 (Below.refl _ _) hszU (by have := HLL.out; omega) ?_; intro v7 W7 hR7 _ hg7 _; generalize hlq : lp ++ [(⟨nd.f0, nd.f1 - t.f1, nd.f2 - t.f1, (nd.f3 - (kk : Int))⟩ : S74)] = lq at hR7; replace hlq := Aside0.mk hlq; obtain ⟨A7, c7, rfl⟩ := Kd.R_slice hR7; have HS7 := HS0.grown hg7 hbase hWs3 hgdW3; have z7 := (blk_cell HS7.d 4).trans rfl; have zf7 := blk_frozen HS7.d 4)
                go_roundw
                case rel => exact ⟨kk + 1, (kk : Int), lq, A7, c7, by omega, rfl, by go_num, by omega, by omega, ⟨by rw [← hlq.out, List.append_assoc]; exact HC.out⟩, ⟨by have := HLL.out; rw [← hlq.out, List.length_append, List.length_singleton]; omega⟩, HS7.put (by omega) 4 _ rfl, ⟨Kd.R_far (p := ⟨gd, 4, none⟩) hR7 (fun _ h => h) _⟩⟩
                case measure => simp [intOf]; omega
              · replace HC := Aside0.mk (HC.out.trans (by rw [if_neg hp0]))
                go_upto_region 27 with fail
                have hbw := below_alloc (Below.refl W4.heap.size W4) (.cells #[.string nd.f0, .int .i64 (nd.f1 - t.f1), .int .i64 (nd.f2 - t.f1), .int .i64 nd.f3] 74)
                have hbx := blk_new W4 (.cells #[.string nd.f0, .int .i64 (nd.f1 - t.f1), .int .i64 (nd.f2 - t.f1), .int .i64 nd.f3] 74)
                generalize W4.alloc (.cells #[.string nd.f0, .int .i64 (nd.f1 - t.f1), .int .i64 (nd.f2 - t.f1), .int .i64 nd.f3] 74) = U0 at hbw hbx ⊢
                have HS0 := HS.step hbw
                have HR0 := Kd.R_below HR.out hbw
                have z4 := (blk_cell HS0.d 4).trans rfl
                have x0 := (blk_cell hbx 0).trans rfl
                have x1 := (blk_cell hbx 1).trans rfl
                have x2 := (blk_cell hbx 2).trans rfl
                have x3 := (blk_cell hbx 3).trans rfl
                have hbase : ∀ b, (Value.slice Av lp.length cv).ownBlock = some b → W3.heap.size ≤ b := (Kd.R_own HR.out).elim fun _ h => own_base h
                have hszU := HS0.size
                go_wp2_with (at_builtin; refine Kd.R_append k74 (w0 := U0) (W := U0) W3.heap.size rfl (.tmp 137) (.tmp 139) 26 74 _ 40 rfl Try.underlying26 info74 rfl (by decide) (by decide) (.slice Av lp.length cv) lp (⟨nd.f0, nd.f1 - t.f1, nd.f2 - t.f1, nd.f3⟩ : S74) [.string nd.f0, .int .i64 (nd.f1 - t.f1), .int .i64 (nd.f2 - t.f1), .int .i64 nd.f3] (fun b => b ≠ gd) (fun _ => False) rfl rfl (k74_mkM _ _ _ (⟨nd.f0, nd.f1 - t.f1, nd.f2 - t.f1, nd.f3⟩ : S74)) (fun _ h => h.elim) (fun b hb => by omega) HR0 (Below.refl _ _) hszU (by have := HLL.out; omega) ?_; intro v7 W7 hR7 _ hg7 _; generalize hlq : lp ++ [(⟨nd.f0, nd.f1 - t.f1, nd.f2 - t.f1, nd.f3⟩ : S74)] = lq at hR7; replace hlq := Aside0.mk hlq; obtain ⟨A7, c7, rfl⟩ := Kd.R_slice hR7; have HS7 := HS0.grown hg7 hbase hWs3 hgdW3; have z7 := (blk_cell HS7.d 4).trans rfl; have zf7 := blk_frozen HS7.d 4)
                go_roundw
                case rel => exact ⟨kk + 1, (kk : Int), lq, A7, c7, by omega, rfl, by go_num, by omega, by omega, ⟨by rw [← hlq.out, List.append_assoc]; exact HC.out⟩, ⟨by have := HLL.out; rw [← hlq.out, List.length_append, List.length_singleton]; omega⟩, HS7.put (by omega) 4 _ rfl, ⟨Kd.R_far (p := ⟨gd, 4, none⟩) hR7 (fun _ h => h) _⟩⟩
                case measure => simp [intOf]; omega
            · replace HC := Aside0.mk (HC.out.trans (by rw [if_neg hfn]))
              by_cases hp0 : 0 ≤ nd.f3
              · replace HC := Aside0.mk (HC.out.trans (by rw [if_pos hp0]))
                go_upto_region 27 with fail
                have hbw := below_alloc (Below.refl W4.heap.size W4) (.cells #[.string nd.f0, .int .i64 (nd.f1 - t.f1), .int .i64 (nd.f2 - t.f1), .int .i64 (nd.f3 - f)] 74)
                have hbx := blk_new W4 (.cells #[.string nd.f0, .int .i64 (nd.f1 - t.f1), .int .i64 (nd.f2 - t.f1), .int .i64 (nd.f3 - f)] 74)
                generalize W4.alloc (.cells #[.string nd.f0, .int .i64 (nd.f1 - t.f1), .int .i64 (nd.f2 - t.f1), .int .i64 (nd.f3 - f)] 74) = U0 at hbw hbx ⊢
                have HS0 := HS.step hbw
                have HR0 := Kd.R_below HR.out hbw
                have z4 := (blk_cell HS0.d 4).trans rfl
                have x0 := (blk_cell hbx 0).trans rfl
                have x1 := (blk_cell hbx 1).trans rfl
                have x2 := (blk_cell hbx 2).trans rfl
                have x3 := (blk_cell hbx 3).trans rfl
                have hbase : ∀ b, (Value.slice Av lp.length cv).ownBlock = some b → W3.heap.size ≤ b := (Kd.R_own HR.out).elim fun _ h => own_base h
                have hszU := HS0.size
                go_wp2_with (at_builtin; refine Kd.R_append k74 (w0 := U0) (W := U0) W3.heap.size rfl (.tmp 137) (.tmp 139) 26 74 _ 40 rfl Try.underlying26 info74 rfl (by decide) (by decide) (.slice Av lp.length cv) lp (⟨nd.f0, nd.f1 - t.f1, nd.f2 - t.f1, (nd.f3 - f)⟩ : S74) [.string nd.f0, .int .i64 (nd.f1 - t.f1), .int .i64 (nd.f2 - t.f1), .int .i64 (nd.f3 - f)] (fun b => b ≠ gd) (fun _ => False) rfl rfl (k74_mkM _ _ _ (⟨nd.f0, nd.f1 - t.f1, nd.f2 - t.f1, (nd.f3 - f)⟩ : S74)) (fun _ h => h.elim) (fun b hb => by omega) HR0 (Below.refl _ _) hszU (by have := HLL.out; omega) ?_; intro v7 W7 hR7 _ hg7 _; generalize hlq : lp ++ [(⟨nd.f0, nd.f1 - t.f1, nd.f2 - t.f1, (nd.f3 - f)⟩ : S74)] = lq at hR7; replace hlq := Aside0.mk hlq; obtain ⟨A7, c7, rfl⟩ := Kd.R_slice hR7; have HS7 := HS0.grown hg7 hbase hWs3 hgdW3; have z7 := (blk_cell HS7.d 4).trans rfl; have zf7 := blk_frozen HS7.d 4)
                go_roundw
                case rel => exact ⟨kk + 1, f, lq, A7, c7, by omega, rfl, by go_num, by omega, by omega, ⟨by rw [← hlq.out, List.append_assoc]; exact HC.out⟩, ⟨by have := HLL.out; rw [← hlq.out, List.length_append, List.length_singleton]; omega⟩, HS7.put (by omega) 4 _ rfl, ⟨Kd.R_far (p := ⟨gd, 4, none⟩) hR7 (fun _ h => h) _⟩⟩
                case measure => simp [intOf]; omega
              · replace HC := Aside0.mk (HC.out.trans (by rw [if_neg hp0]))
                go_upto_region 27 with fail
                have hbw := below_alloc (Below.refl W4.heap.size W4) (.cells #[.string nd.f0, .int .i64 (nd.f1 - t.f1), .int .i64 (nd.f2 - t.f1), .int .i64 nd.f3] 74)
                have hbx := blk_new W4 (.cells #[.string nd.f0, .int .i64 (nd.f1 - t.f1), .int .i64 (nd.f2 - t.f1), .int .i64 nd.f3] 74)
                generalize W4.alloc (.cells #[.string nd.f0, .int .i64 (nd.f1 - t.f1), .int .i64 (nd.f2 - t.f1), .int .i64 nd.f3] 74) = U0 at hbw hbx ⊢
                have HS0 := HS.step hbw
                have HR0 := Kd.R_below HR.out hbw
                have z4 := (blk_cell HS0.d 4).trans rfl
                have x0 := (blk_cell hbx 0).trans rfl
                have x1 := (blk_cell hbx 1).trans rfl
                have x2 := (blk_cell hbx 2).trans rfl
                have x3 := (blk_cell hbx 3).trans rfl
                have hbase : ∀ b, (Value.slice Av lp.length cv).ownBlock = some b → W3.heap.size ≤ b := (Kd.R_own HR.out).elim fun _ h => own_base h
                have hszU := HS0.size
                go_wp2_with (at_builtin; refine Kd.R_append k74 (w0 := U0) (W := U0) W3.heap.size rfl (.tmp 137) (.tmp 139) 26 74 _ 40 rfl Try.underlying26 info74 rfl (by decide) (by decide) (.slice Av lp.length cv) lp (⟨nd.f0, nd.f1 - t.f1, nd.f2 - t.f1, nd.f3⟩ : S74) [.string nd.f0, .int .i64 (nd.f1 - t.f1), .int .i64 (nd.f2 - t.f1), .int .i64 nd.f3] (fun b => b ≠ gd) (fun _ => False) rfl rfl (k74_mkM _ _ _ (⟨nd.f0, nd.f1 - t.f1, nd.f2 - t.f1, nd.f3⟩ : S74)) (fun _ h => h.elim) (fun b hb => by omega) HR0 (Below.refl _ _) hszU (by have := HLL.out; omega) ?_; intro v7 W7 hR7 _ hg7 _; generalize hlq : lp ++ [(⟨nd.f0, nd.f1 - t.f1, nd.f2 - t.f1, nd.f3⟩ : S74)] = lq at hR7; replace hlq := Aside0.mk hlq; obtain ⟨A7, c7, rfl⟩ := Kd.R_slice hR7; have HS7 := HS0.grown hg7 hbase hWs3 hgdW3; have z7 := (blk_cell HS7.d 4).trans rfl; have zf7 := blk_frozen HS7.d 4)
                go_roundw
                case rel => exact ⟨kk + 1, f, lq, A7, c7, by omega, rfl, by go_num, by omega, by omega, ⟨by rw [← hlq.out, List.append_assoc]; exact HC.out⟩, ⟨by have := HLL.out; rw [← hlq.out, List.length_append, List.length_singleton]; omega⟩, HS7.put (by omega) 4 _ rfl, ⟨Kd.R_far (p := ⟨gd, 4, none⟩) hR7 (fun _ h => h) _⟩⟩
                case measure => simp [intOf]; omega
          · obtain rfl : kk = x.f4.length := by omega
            have HLP' : lp = cutN2 t x.f4 (-1) 0 := by
              have h : cutN2 t x.f4 (-1) 0 = lp ++ [] := by have h := HLP.out; rwa [List.drop_eq_nil_of_le (Nat.le_refl _)] at h
              rw [List.append_nil] at h; exact h.symm
            have HLN : Aside0 (lp = cutN t x.f4 0 0) := ⟨HLP'.trans (cutN_same HV.out.2.2.1 HV.out.2.2.2.2.1 (List.mem_of_getElem? ht.out))⟩
            have r4 := HR.out
            replace r1 := Kd.R_keep r1 HS.kp (fun _ h => h)
            replace r2 := Kd.R_keep r2 HS.kp (fun _ h => h)
            replace r8 := Kd.R_keep r8 HS.kp (fun _ h => h)
            replace r3 := Kd.R_keep r3 HS.kp (fun _ h => h)
            have X4 := HX
            have dz4 := HS.d
            have hWs4 : w.heap.size ≤ W4.heap.size := HS.be.size
            have hgdW4 : gd < W4.heap.size := blk_lt dz4
            clear HR HLP HLL HLP' HS HX hsz X3 dz3 hWs3 hf0 hf1
            generalize hL4 : lp = L4 at *
            clear hL4
            generalize Av = Av4 at *
            generalize cv = cv4 at *
            have HHD := Aside0.mk (heads_ok (fun u hu => by have := texts_in HV.out.2.2.1 u hu; exact ⟨this.1, this.2.2.1⟩) HV.out.2.2.2.2.2)
            have HNR := Aside0.mk (heads_near2 (texts_sep HV.out.2.2.1) (List.mem_of_getElem? ht.out) HV.out.2.2.2.2.2 HHD.out.1)
            have HG5 : Aside0 ((Kd.int .i64).C w A5 x.f5.length x.f5) := ⟨g5⟩
            have HG6 : Aside0 (Kd.string.C w A6 x.f6.length x.f6) := ⟨g6⟩
            have nW3 : Aside0 (Go.RowKit.wrap64 (t.f1 + (t.f2 - t.f1)) = t.f2) := ⟨by rw [← i64_w, IntWalk.i64_in _ (by omega)]; omega⟩
            go_wp2
            have HS := St.refl X4 dz4
            by_cases h50 : x.f5.length = 0
            · have hq5 : decide ((0 : Int) < (x.f5.length : Int)) = false := decide_eq_false (by omega)
              have hq5n : decide (0 < x.f5.length) = false := decide_eq_false (by omega)
              have HE5 : Aside0 (hasH x t = false) := ⟨by simp [hasH, h50]⟩
              clear h50
              have X := X4.drew
              have HS := HS.drew
              have hbd : Below W4.heap.size W4 W4.drew := pw_below_drewN (Below.refl _ _) 1
              refine start_ (n := 24) (S := fun w' => w'.cell? ⟨w.heap.size, 5, none⟩ = some (.slice A5 x.f5.length c5)) (ds := []) #[false, false, false, false, false, false, false, false, false, false, false, false, false, false, false, false, false, false, false, false, false, false, false, false] (by kernel_rfl) rfl rfl ((blk_cell X.c 5).trans rfl) (fun hHeld => ?_)
              generalize W4.drew = U0 at X HS hbd hHeld ⊢
              refine pure_ (i := 0) (N := some 143) (v := ?_) (a' := ?_) #[true, false, false, false, false, false, false, false, false, false, false, false, false, false, false, false, false, false, false, false, false, false, false, false] rfl rfl (by kernel_rfl) (fun _ _ _ h => h) (Or.inl ⟨by rfl, ?_⟩) ?_ ?_
              rotate_left
              · intro w'
                go_simp
                with_reducible rfl
              rotate_left
              · simp only [Act.put, List.setIfInBounds_toArray, List.set_cons_zero, List.set_cons_succ]
                rfl
              refine take_ (i := 1) (N := some 144) (v := ?_) (a' := ?_) #[true, true, false, false, false, false, false, false, false, false, false, false, false, false, false, false, false, false, false, false, false, false, false, false] rfl rfl (by kernel_rfl) (fun _ _ _ h => h) (Or.inl ⟨by rfl, ?_⟩) hHeld ?_ ?_
              rotate_left
              · intro w' s0
                go_simp
                with_reducible rfl
              rotate_left
              · simp only [Act.put, List.setIfInBounds_toArray, List.set_cons_zero, List.set_cons_succ]
                rfl
              refine pure_ (i := 2) (N := some 145) (v := ?_) (a' := ?_) #[true, true, true, false, false, false, false, false, false, false, false, false, false, false, false, false, false, false, false, false, false, false, false, false] rfl rfl (by kernel_rfl) (fun _ _ _ h => h) (Or.inl ⟨by rfl, ?_⟩) ?_ ?_
              rotate_left
              · intro w'
                go_simp
                with_reducible rfl
              rotate_left
              · simp only [Act.put, List.setIfInBounds_toArray, List.set_cons_zero, List.set_cons_succ]
                rfl
              refine pure_ (i := 3) (N := some 146) (v := ?_) (a' := ?_) #[true, true, true, true, false, false, false, false, false, false, false, false, false, false, false, false, false, false, false, false, false, false, false, false] rfl rfl (by kernel_rfl) (fun _ _ _ h => h) (Or.inl ⟨by rfl, ?_⟩) ?_ ?_
              rotate_left
              · intro w'
                go_simp
                with_reducible rfl
              rotate_left
              · simp only [Act.put, List.setIfInBounds_toArray, List.set_cons_zero, List.set_cons_succ]
                rfl
              refine pure_ (i := 4) (N := some 147) (v := ?_) (a' := ?_) #[true, true, true, true, true, false, false, false, false, false, false, false, false, false, false, false, false, false, false, false, false, false, false, false] rfl rfl (by kernel_rfl) (fun _ _ _ h => h) (Or.inl ⟨by rfl, ?_⟩) ?_ ?_
              rotate_left
              · intro w'
                go_simp
                with_reducible rfl
              rotate_left
              · simp only [Act.put, List.setIfInBounds_toArray, List.set_cons_zero, List.set_cons_succ]
                rfl
              refine pure_ (i := 5) (N := some 148) (v := undef) (a' := ?_) #[true, true, true, true, true, true, false, false, false, false, false, false, false, false, false, false, false, false, false, false, false, false, false, false] rfl rfl (by kernel_rfl) (fun _ _ _ h => h) (Or.inr ⟨by rfl, rfl⟩) ?_ ?_
              rotate_left
              · simp only [Act.put, List.setIfInBounds_toArray, List.set_cons_zero, List.set_cons_succ]
                rfl
              refine pure_ (i := 6) (N := some 149) (v := undef) (a' := ?_) #[true, true, true, true, true, true, true, false, false, false, false, false, false, false, false, false, false, false, false, false, false, false, false, false] rfl rfl (by kernel_rfl) (fun _ _ _ h => h) (Or.inr ⟨by rfl, rfl⟩) ?_ ?_
              rotate_left
              · simp only [Act.put, List.setIfInBounds_toArray, List.set_cons_zero, List.set_cons_succ]
                rfl
              refine pure_ (i := 7) (N := some 150) (v := undef) (a' := ?_) #[true, true, true, true, true, true, true, true, false, false, false, false, false, false, false, false, false, false, false, false, false, false, false, false] rfl rfl (by kernel_rfl) (fun _ _ _ h => h) (Or.inr ⟨by rfl, rfl⟩) ?_ ?_
              rotate_left
              · simp only [Act.put, List.setIfInBounds_toArray, List.set_cons_zero, List.set_cons_succ]
                rfl
              refine pure_ (i := 8) (N := some 151) (v := undef) (a' := ?_) #[true, true, true, true, true, true, true, true, true, false, false, false, false, false, false, false, false, false, false, false, false, false, false, false] rfl rfl (by kernel_rfl) (fun _ _ _ h => h) (Or.inr ⟨by rfl, rfl⟩) ?_ ?_
              rotate_left
              · simp only [Act.put, List.setIfInBounds_toArray, List.set_cons_zero, List.set_cons_succ]
                rfl
              refine pure_ (i := 9) (N := some 152) (v := undef) (a' := ?_) #[true, true, true, true, true, true, true, true, true, true, false, false, false, false, false, false, false, false, false, false, false, false, false, false] rfl rfl (by kernel_rfl) (fun _ _ _ h => h) (Or.inr ⟨by rfl, rfl⟩) ?_ ?_
              rotate_left
              · simp only [Act.put, List.setIfInBounds_toArray, List.set_cons_zero, List.set_cons_succ]
                rfl
              refine pure_ (i := 10) (N := some 153) (v := undef) (a' := ?_) #[true, true, true, true, true, true, true, true, true, true, true, false, false, false, false, false, false, false, false, false, false, false, false, false] rfl rfl (by kernel_rfl) (fun _ _ _ h => h) (Or.inr ⟨by rfl, rfl⟩) ?_ ?_
              rotate_left
              · simp only [Act.put, List.setIfInBounds_toArray, List.set_cons_zero, List.set_cons_succ]
                rfl
              refine pure_ (i := 11) (N := some 154) (v := undef) (a' := ?_) #[true, true, true, true, true, true, true, true, true, true, true, true, false, false, false, false, false, false, false, false, false, false, false, false] rfl rfl (by kernel_rfl) (fun _ _ _ h => h) (Or.inr ⟨by rfl, rfl⟩) ?_ ?_
              rotate_left
              · simp only [Act.put, List.setIfInBounds_toArray, List.set_cons_zero, List.set_cons_succ]
                rfl
              refine pure_ (i := 12) (N := some 155) (v := undef) (a' := ?_) #[true, true, true, true, true, true, true, true, true, true, true, true, true, false, false, false, false, false, false, false, false, false, false, false] rfl rfl (by kernel_rfl) (fun _ _ _ h => h) (Or.inr ⟨by rfl, rfl⟩) ?_ ?_
              rotate_left
              · simp only [Act.put, List.setIfInBounds_toArray, List.set_cons_zero, List.set_cons_succ]
                rfl
              refine pure_ (i := 13) (N := some 156) (v := undef) (a' := ?_) #[true, true, true, true, true, true, true, true, true, true, true, true, true, true, false, false, false, false, false, false, false, false, false, false] rfl rfl (by kernel_rfl) (fun _ _ _ h => h) (Or.inr ⟨by rfl, rfl⟩) ?_ ?_
              rotate_left
              · simp only [Act.put, List.setIfInBounds_toArray, List.set_cons_zero, List.set_cons_succ]
                rfl
              refine pure_ (i := 14) (N := some 157) (v := undef) (a' := ?_) #[true, true, true, true, true, true, true, true, true, true, true, true, true, true, true, false, false, false, false, false, false, false, false, false] rfl rfl (by kernel_rfl) (fun _ _ _ h => h) (Or.inr ⟨by rfl, rfl⟩) ?_ ?_
              rotate_left
              · simp only [Act.put, List.setIfInBounds_toArray, List.set_cons_zero, List.set_cons_succ]
                rfl
              refine pure_ (i := 15) (N := some 158) (v := undef) (a' := ?_) #[true, true, true, true, true, true, true, true, true, true, true, true, true, true, true, true, false, false, false, false, false, false, false, false] rfl rfl (by kernel_rfl) (fun _ _ _ h => h) (Or.inr ⟨by rfl, rfl⟩) ?_ ?_
              rotate_left
              · simp only [Act.put, List.setIfInBounds_toArray, List.set_cons_zero, List.set_cons_succ]
                rfl
              refine pure_ (i := 16) (N := some 159) (v := undef) (a' := ?_) #[true, true, true, true, true, true, true, true, true, true, true, true, true, true, true, true, true, false, false, false, false, false, false, false] rfl rfl (by kernel_rfl) (fun _ _ _ h => h) (Or.inr ⟨by rfl, rfl⟩) ?_ ?_
              rotate_left
              · simp only [Act.put, List.setIfInBounds_toArray, List.set_cons_zero, List.set_cons_succ]
                rfl
              refine pure_ (i := 17) (N := some 160) (v := undef) (a' := ?_) #[true, true, true, true, true, true, true, true, true, true, true, true, true, true, true, true, true, true, false, false, false, false, false, false] rfl rfl (by kernel_rfl) (fun _ _ _ h => h) (Or.inr ⟨by rfl, rfl⟩) ?_ ?_
              rotate_left
              · simp only [Act.put, List.setIfInBounds_toArray, List.set_cons_zero, List.set_cons_succ]
                rfl
              refine pure_ (i := 18) (N := some 161) (v := undef) (a' := ?_) #[true, true, true, true, true, true, true, true, true, true, true, true, true, true, true, true, true, true, true, false, false, false, false, false] rfl rfl (by kernel_rfl) (fun _ _ _ h => h) (Or.inr ⟨by rfl, rfl⟩) ?_ ?_
              rotate_left
              · simp only [Act.put, List.setIfInBounds_toArray, List.set_cons_zero, List.set_cons_succ]
                rfl
              refine pure_ (i := 19) (N := some 162) (v := undef) (a' := ?_) #[true, true, true, true, true, true, true, true, true, true, true, true, true, true, true, true, true, true, true, true, false, false, false, false] rfl rfl (by kernel_rfl) (fun _ _ _ h => h) (Or.inr ⟨by rfl, rfl⟩) ?_ ?_
              rotate_left
              · simp only [Act.put, List.setIfInBounds_toArray, List.set_cons_zero, List.set_cons_succ]
                rfl
              refine pure_ (i := 20) (N := some 163) (v := undef) (a' := ?_) #[true, true, true, true, true, true, true, true, true, true, true, true, true, true, true, true, true, true, true, true, true, false, false, false] rfl rfl (by kernel_rfl) (fun _ _ _ h => h) (Or.inr ⟨by rfl, rfl⟩) ?_ ?_
              rotate_left
              · simp only [Act.put, List.setIfInBounds_toArray, List.set_cons_zero, List.set_cons_succ]
                rfl
              refine pure_ (i := 21) (N := some 164) (v := undef) (a' := ?_) #[true, true, true, true, true, true, true, true, true, true, true, true, true, true, true, true, true, true, true, true, true, true, false, false] rfl rfl (by kernel_rfl) (fun _ _ _ h => h) (Or.inr ⟨by rfl, rfl⟩) ?_ ?_
              rotate_left
              · simp only [Act.put, List.setIfInBounds_toArray, List.set_cons_zero, List.set_cons_succ]
                rfl
              refine pure_ (i := 22) (N := some 165) (v := undef) (a' := ?_) #[true, true, true, true, true, true, true, true, true, true, true, true, true, true, true, true, true, true, true, true, true, true, true, false] rfl rfl (by kernel_rfl) (fun _ _ _ h => h) (Or.inr ⟨by rfl, rfl⟩) ?_ ?_
              rotate_left
              · simp only [Act.put, List.setIfInBounds_toArray, List.set_cons_zero, List.set_cons_succ]
                rfl
              refine pure_ (i := 23) (N := some 166) (v := ?_) (a' := ?_) #[true, true, true, true, true, true, true, true, true, true, true, true, true, true, true, true, true, true, true, true, true, true, true, true] rfl rfl (by kernel_rfl) (fun _ _ _ h => h) (Or.inl ⟨by rfl, ?_⟩) ?_ ?_
              rotate_left
              · intro w'
                go_simp
                with_reducible rfl
              rotate_left
              · simp only [Act.put, List.setIfInBounds_toArray, List.set_cons_zero, List.set_cons_succ]
                rfl
              refine done_ (by kernel_rfl) ?_
              have z0 := (blk_cell HS.d 0).trans rfl
              have z1 := (blk_cell HS.d 1).trans rfl
              have z2 := (blk_cell HS.d 2).trans rfl
              have z3 := (blk_cell HS.d 3).trans rfl
              have z4 := (blk_cell HS.d 4).trans rfl
              have z5 := (blk_cell HS.d 5).trans rfl
              have z6 := (blk_cell HS.d 6).trans rfl
              have zr0 := (blk_cell X.r 0).trans rfl
              have zr1 := (blk_cell X.r 1).trans rfl
              have zr2 := (blk_cell X.r 2).trans rfl
              have zr3 := (blk_cell X.r 3).trans rfl
              have zr4 := (blk_cell X.r 4).trans rfl
              have zr5 := (blk_cell X.r 5).trans rfl
              have zr6 := (blk_cell X.r 6).trans rfl
              have zf0 := blk_frozen X.r 0
              have zf1 := blk_frozen X.r 1
              have zf2 := blk_frozen X.r 2
              have zf3 := blk_frozen X.r 3
              have zf4 := blk_frozen X.r 4
              have zf5 := blk_frozen X.r 5
              have zf6 := blk_frozen X.r 6
              go_wp2
              clear z0 z1 z2 z3 z4 z5 z6 zr0 zr1 zr2 zr3 zr4 zr5 zr6 zf0 zf1 zf2 zf3 zf4 zf5 zf6
              have hzr := put7_blk X.r (.slice A2 x.f0.length cc2) (.slice A9 (t.f2.toNat - t.f1.toNat) cc9) (.slice (some ⟨g8, 0, none⟩) 1 1) (.slice Av3 L3.length cv3) (.slice Av4 L4.length cv4) (.slice none 0 0) (.slice none 0 0)
              have hwr := put7_below (g := w.heap.size + 1) X.be (by omega) (.slice A2 x.f0.length cc2) (.slice A9 (t.f2.toNat - t.f1.toNat) cc9) (.slice (some ⟨g8, 0, none⟩) 1 1) (.slice Av3 L3.length cv3) (.slice Av4 L4.length cv4) (.slice none 0 0) (.slice none 0 0)
              refine bodyPost_ret (results_ct rfl _ (put7 U0 (w.heap.size + 1) (.slice A2 x.f0.length cc2) (.slice A9 (t.f2.toNat - t.f1.toNat) cc9) (.slice (some ⟨g8, 0, none⟩) 1 1) (.slice Av3 L3.length cv3) (.slice Av4 L4.length cv4) (.slice none 0 0) (.slice none 0 0)) (w.heap.size + 1) 30 #[.slice A2 x.f0.length cc2, .slice A9 (t.f2.toNat - t.f1.toNat) cc9, .slice (some ⟨g8, 0, none⟩) 1 1, .slice Av3 L3.length cv3, .slice Av4 L4.length cv4, .slice none 0 0, .slice none 0 0] (0, 0) _ rfl hzr Try.underlying30 rfl (by kernel_rfl)) rfl ?_
              refine ⟨[.slice A2 x.f0.length cc2, .slice A9 (t.f2.toNat - t.f1.toNat) cc9, .slice (some ⟨g8, 0, none⟩) 1 1, .slice Av3 L3.length cv3, .slice Av4 L4.length cv4, .slice none 0 0, .slice none 0 0], ?_, ?_, hwr⟩
              · rw [HE.out]; rfl
              · have hcx : cutX x t = ⟨x.f0, M1, [shiftT t (-t.f1)], L3, L4, [], []⟩ := by rw [cutX, hM1.out, hLC.out, ← HLN.out, HE5.out]; rfl
                rw [HO.out, hcx]
                rw [← HML.out] at r1 hwr ⊢
                exact K_finS (y := ⟨x.f0, M1, [shiftT t (-t.f1)], L3, L4, [], []⟩) hwr (R_fin r2 hbd (by omega) _ _ _ _ _ _ _) (R_fin r1 hbd (by omega) _ _ _ _ _ _ _) (R_fin r8 hbd (by omega) _ _ _ _ _ _ _) (R_fin r3 hbd (by omega) _ _ _ _ _ _ _) (R_fin r4 hbd (by omega) _ _ _ _ _ _ _) (Kd.R_nil (Kd.int .i64) 3 _ 0 (fun _ => True)) (Kd.R_nil Kd.string 9 _ 0 (fun _ => True))
            · have hq5 : decide ((0 : Int) < (x.f5.length : Int)) = true := decide_eq_true (by omega)
              have hq5n : decide (0 < x.f5.length) = true := decide_eq_true (by omega)
              have hl5 : x.f5.length = x.f1.length := HHD.out.2.1 (by omega)
              have hl6 : x.f6.length = x.f1.length := HHD.out.1 ▸ hl5
              have HL5 := Aside0.mk hl5
              have HL6 := Aside0.mk hl6
              have hc5 : t.f2 ≤ (c5 : Int) := by omega
              have hc6 : t.f2 ≤ (c6 : Int) := by omega
              have hne5 : ¬ c5 = t.f1.toNat := by omega
              have hne6 : ¬ c6 = t.f1.toNat := by omega
              obtain ⟨a5, rfl⟩ : ∃ a5, A5 = some a5 := by
                obtain ⟨a5, _, e, _⟩ := Kd.C_get g5 0 0 (by omega) (by omega)
                exact ⟨a5, e⟩
              obtain ⟨a6, rfl⟩ : ∃ a6, A6 = some a6 := by
                obtain ⟨a6, _, e, _⟩ := Kd.C_get g6 ByteArray.empty 0 (by omega) (by omega)
                exact ⟨a6, e⟩
              have gm5 := Kd.C_mid g5 (lo := t.f1.toNat) (hi := t.f2.toNat) (c := c5) (by omega) (by omega) (by omega)
              rw [if_neg (by omega), show t.f1.toNat * (Kd.int .i64).sz = t.f1.toNat from Nat.mul_one _] at gm5
              have gm6 := Kd.C_mid g6 (lo := t.f1.toNat) (hi := t.f2.toNat) (c := c6) (by omega) (by omega) (by omega)
              rw [if_neg (by omega), show t.f1.toNat * Kd.string.sz = t.f1.toNat from Nat.mul_one _] at gm6
              have HM5 : Aside0 ((Kd.int .i64).C w (some (a5.add t.f1.toNat)) (mid x.f5 t.f1 t.f2).length (mid x.f5 t.f1 t.f2)) := ⟨gm5⟩
              have HM6 : Aside0 (Kd.string.C w (some (a6.add t.f1.toNat)) (mid x.f6 t.f1 t.f2).length (mid x.f6 t.f1 t.f2)) := ⟨gm6⟩
              clear gm5 gm6
              have HK5 : Aside0 ((mid x.f5 t.f1 t.f2).length = t.f2.toNat - t.f1.toNat) := ⟨by rw [mid, List.length_drop, List.length_take]; omega⟩
              have HK6 : Aside0 ((mid x.f6 t.f1 t.f2).length = t.f2.toNat - t.f1.toNat) := ⟨by rw [mid, List.length_drop, List.length_take]; omega⟩
              have H50 := Aside0.mk h50
              clear hl5 hl6 h50
              have X := X4.drew
              have HS := HS.drew
              have hbd : Below W4.heap.size W4 W4.drew := pw_below_drewN (Below.refl _ _) 1
              cases hnh : noH (mid x.f5 t.f1 t.f2) (mid x.f6 t.f1 t.f2)
              · have HE5 : Aside0 (hasH x t = true) := ⟨by simp [hasH, hnh, H50.out]⟩
                refine start_ (n := 24) (S := fun w' => w'.cell? ⟨w.heap.size, 5, none⟩ = some (.slice (some a5) x.f5.length c5) ∧ w'.cell? ⟨gT, 2, none⟩ = some (.int .i64 (t.f2 - t.f1)) ∧ w'.cell? ⟨w.heap.size, 6, none⟩ = some (.slice (some a6) x.f6.length c6)) (ds := []) #[false, false, false, false, false, false, false, false, false, false, false, false, false, false, false, false, false, false, false, false, false, false, false, false] (by kernel_rfl) rfl rfl ⟨(blk_cell X.c 5).trans rfl, (blk_cell X.t 2).trans rfl, (blk_cell X.c 6).trans rfl⟩ (fun hHeld => ?_)
                generalize W4.drew = U0 at X HS hbd hHeld ⊢
                refine pure_ (i := 0) (N := some 143) (v := ?_) (a' := ?_) #[true, false, false, false, false, false, false, false, false, false, false, false, false, false, false, false, false, false, false, false, false, false, false, false] rfl rfl (by kernel_rfl) (fun _ _ _ h => h) (Or.inl ⟨by rfl, ?_⟩) ?_ ?_
                rotate_left
                · intro w'
                  go_simp
                  with_reducible rfl
                rotate_left
                · simp only [Act.put, List.setIfInBounds_toArray, List.set_cons_zero, List.set_cons_succ]
                  rfl
                refine take_ (i := 1) (N := some 144) (v := ?_) (a' := ?_) #[true, true, false, false, false, false, false, false, false, false, false, false, false, false, false, false, false, false, false, false, false, false, false, false] rfl rfl (by kernel_rfl) (fun _ _ _ h => h) (Or.inl ⟨by rfl, ?_⟩) hHeld ?_ ?_
                rotate_left
                · rintro w' ⟨s0, s1, s2⟩
                  go_simp
                  with_reducible rfl
                rotate_left
                · simp only [Act.put, List.setIfInBounds_toArray, List.set_cons_zero, List.set_cons_succ]
                  rfl
                refine pure_ (i := 2) (N := some 145) (v := ?_) (a' := ?_) #[true, true, true, false, false, false, false, false, false, false, false, false, false, false, false, false, false, false, false, false, false, false, false, false] rfl rfl (by kernel_rfl) (fun _ _ _ h => h) (Or.inl ⟨by rfl, ?_⟩) ?_ ?_
                rotate_left
                · intro w'
                  go_simp
                  with_reducible rfl
                rotate_left
                · simp only [Act.put, List.setIfInBounds_toArray, List.set_cons_zero, List.set_cons_succ]
                  rfl
                refine pure_ (i := 3) (N := some 146) (v := ?_) (a' := ?_) #[true, true, true, true, false, false, false, false, false, false, false, false, false, false, false, false, false, false, false, false, false, false, false, false] rfl rfl (by kernel_rfl) (fun _ _ _ h => h) (Or.inl ⟨by rfl, ?_⟩) ?_ ?_
                rotate_left
                · intro w'
                  go_simp
                  with_reducible rfl
                rotate_left
                · simp only [Act.put, List.setIfInBounds_toArray, List.set_cons_zero, List.set_cons_succ]
                  rfl
                refine pure_ (i := 4) (N := some 147) (v := ?_) (a' := ?_) #[true, true, true, true, true, false, false, false, false, false, false, false, false, false, false, false, false, false, false, false, false, false, false, false] rfl rfl (by kernel_rfl) (fun _ _ _ h => h) (Or.inl ⟨by rfl, ?_⟩) ?_ ?_
                rotate_left
                · intro w'
                  go_simp
                  with_reducible rfl
                rotate_left
                · simp only [Act.put, List.setIfInBounds_toArray, List.set_cons_zero, List.set_cons_succ]
                  rfl
                refine pure_ (i := 5) (N := some 148) (v := ?_) (a' := ?_) #[true, true, true, true, true, true, false, false, false, false, false, false, false, false, false, false, false, false, false, false, false, false, false, false] rfl rfl (by kernel_rfl) (fun _ _ _ h => h) (Or.inl ⟨by rfl, ?_⟩) ?_ ?_
                rotate_left
                · intro w'
                  go_simp
                  with_reducible rfl
                rotate_left
                · simp only [Act.put, List.setIfInBounds_toArray, List.set_cons_zero, List.set_cons_succ]
                  rfl
                refine pure_ (i := 7) (N := some 150) (v := ?_) (a' := ?_) #[true, true, true, true, true, true, false, true, false, false, false, false, false, false, false, false, false, false, false, false, false, false, false, false] rfl rfl (by kernel_rfl) (fun _ _ _ h => h) (Or.inl ⟨by rfl, ?_⟩) ?_ ?_
                rotate_left
                · intro w'
                  go_simp
                  with_reducible rfl
                rotate_left
                · simp only [Act.put, List.setIfInBounds_toArray, List.set_cons_zero, List.set_cons_succ]
                  rfl
                refine pure_ (i := 8) (N := some 151) (v := ?_) (a' := ?_) #[true, true, true, true, true, true, false, true, true, false, false, false, false, false, false, false, false, false, false, false, false, false, false, false] rfl rfl (by kernel_rfl) (fun _ _ _ h => h) (Or.inl ⟨by rfl, ?_⟩) ?_ ?_
                rotate_left
                · intro w'
                  go_simp
                  with_reducible rfl
                rotate_left
                · simp only [Act.put, List.setIfInBounds_toArray, List.set_cons_zero, List.set_cons_succ]
                  rfl
                refine pure_ (i := 9) (N := some 152) (v := ?_) (a' := ?_) #[true, true, true, true, true, true, false, true, true, true, false, false, false, false, false, false, false, false, false, false, false, false, false, false] rfl rfl (by kernel_rfl) (fun _ _ _ h => h) (Or.inl ⟨by rfl, ?_⟩) ?_ ?_
                rotate_left
                · intro w'
                  go_simp
                  with_reducible rfl
                rotate_left
                · simp only [Act.put, List.setIfInBounds_toArray, List.set_cons_zero, List.set_cons_succ]
                  rfl
                refine pure_ (i := 13) (N := some 156) (v := ?_) (a' := ?_) #[true, true, true, true, true, true, false, true, true, true, false, false, false, true, false, false, false, false, false, false, false, false, false, false] rfl rfl (by kernel_rfl) (fun _ _ _ h => h) (Or.inl ⟨by rfl, ?_⟩) ?_ ?_
                rotate_left
                · intro w'
                  go_simp
                  with_reducible rfl
                rotate_left
                · simp only [Act.put, List.setIfInBounds_toArray, List.set_cons_zero, List.set_cons_succ]
                  rfl
                refine pure_ (i := 15) (N := some 158) (v := ?_) (a' := ?_) #[true, true, true, true, true, true, false, true, true, true, false, false, false, true, false, true, false, false, false, false, false, false, false, false] rfl rfl (by kernel_rfl) (fun _ _ _ h => h) (Or.inl ⟨by rfl, ?_⟩) ?_ ?_
                rotate_left
                · intro w'
                  go_simp
                  with_reducible rfl
                rotate_left
                · simp only [Act.put, List.setIfInBounds_toArray, List.set_cons_zero, List.set_cons_succ]
                  rfl
                refine pure_ (i := 16) (N := some 159) (v := ?_) (a' := ?_) #[true, true, true, true, true, true, false, true, true, true, false, false, false, true, false, true, true, false, false, false, false, false, false, false] rfl rfl (by kernel_rfl) (fun _ _ _ h => h) (Or.inl ⟨by rfl, ?_⟩) ?_ ?_
                rotate_left
                · intro w'
                  go_simp
                  with_reducible rfl
                rotate_left
                · simp only [Act.put, List.setIfInBounds_toArray, List.set_cons_zero, List.set_cons_succ]
                  rfl
                refine pure_ (i := 17) (N := some 160) (v := ?_) (a' := ?_) #[true, true, true, true, true, true, false, true, true, true, false, false, false, true, false, true, true, true, false, false, false, false, false, false] rfl rfl (by kernel_rfl) (fun _ _ _ h => h) (Or.inl ⟨by rfl, ?_⟩) ?_ ?_
                rotate_left
                · intro w'
                  go_simp
                  with_reducible rfl
                rotate_left
                · simp only [Act.put, List.setIfInBounds_toArray, List.set_cons_zero, List.set_cons_succ]
                  rfl
                refine take_ (i := 6) (N := some 149) (v := ?_) (a' := ?_) #[true, true, true, true, true, true, true, true, true, true, false, false, false, true, false, true, true, true, false, false, false, false, false, false] rfl rfl (by kernel_rfl) (fun _ _ _ h => h) (Or.inl ⟨by rfl, ?_⟩) hHeld ?_ ?_
                rotate_left
                · rintro w' ⟨s0, s1, s2⟩
                  go_simp
                  with_reducible rfl
                rotate_left
                · simp only [Act.put, List.setIfInBounds_toArray, List.set_cons_zero, List.set_cons_succ]
                  rfl
                refine take_ (i := 10) (N := some 153) (v := ?_) (a' := ?_) #[true, true, true, true, true, true, true, true, true, true, true, false, false, true, false, true, true, true, false, false, false, false, false, false] rfl rfl (by kernel_rfl) (fun _ _ _ h => h) (Or.inl ⟨by rfl, ?_⟩) hHeld ?_ ?_
                rotate_left
                · rintro w' ⟨s0, s1, s2⟩
                  go_simp
                  with_reducible rfl
                rotate_left
                · simp only [Act.put, List.setIfInBounds_toArray, List.set_cons_zero, List.set_cons_succ]
                  rfl
                refine pure_ (i := 11) (N := some 154) (v := ?_) (a' := ?_) #[true, true, true, true, true, true, true, true, true, true, true, true, false, true, false, true, true, true, false, false, false, false, false, false] rfl rfl (by kernel_rfl) (fun _ _ _ h => h) (Or.inl ⟨by rfl, ?_⟩) ?_ ?_
                rotate_left
                · intro w'
                  go_simp
                  with_reducible rfl
                rotate_left
                · simp only [Act.put, List.setIfInBounds_toArray, List.set_cons_zero, List.set_cons_succ, i64_w, nW3.out]
                  rfl
                refine pure_ (i := 12) (N := some 155) (v := ?_) (a' := ?_) #[true, true, true, true, true, true, true, true, true, true, true, true, true, true, false, true, true, true, false, false, false, false, false, false] rfl rfl (by kernel_rfl) (fun _ _ _ h => h) (Or.inl ⟨by rfl, ?_⟩) ?_ ?_
                rotate_left
                · intro w'
                  go_simp
                  with_reducible rfl
                rotate_left
                · simp only [Act.put, List.setIfInBounds_toArray, List.set_cons_zero, List.set_cons_succ]
                  rfl
                refine take_ (i := 14) (N := some 157) (v := ?_) (a' := ?_) #[true, true, true, true, true, true, true, true, true, true, true, true, true, true, true, true, true, true, false, false, false, false, false, false] rfl rfl (by kernel_rfl) (fun _ _ _ h => h) (Or.inl ⟨by rfl, ?_⟩) hHeld ?_ ?_
                rotate_left
                · rintro w' ⟨s0, s1, s2⟩
                  go_simp
                  with_reducible rfl
                rotate_left
                · simp only [Act.put, List.setIfInBounds_toArray, List.set_cons_zero, List.set_cons_succ]
                  rfl
                refine take_ (i := 18) (N := some 161) (v := ?_) (a' := ?_) #[true, true, true, true, true, true, true, true, true, true, true, true, true, true, true, true, true, true, true, false, false, false, false, false] rfl rfl (by kernel_rfl) (fun _ _ _ h => h) (Or.inl ⟨by rfl, ?_⟩) hHeld ?_ ?_
                rotate_left
                · rintro w' ⟨s0, s1, s2⟩
                  go_simp
                  with_reducible rfl
                rotate_left
                · simp only [Act.put, List.setIfInBounds_toArray, List.set_cons_zero, List.set_cons_succ]
                  rfl
                refine pure_ (i := 19) (N := some 162) (v := ?_) (a' := ?_) #[true, true, true, true, true, true, true, true, true, true, true, true, true, true, true, true, true, true, true, true, false, false, false, false] rfl rfl (by kernel_rfl) (fun _ _ _ h => h) (Or.inl ⟨by rfl, ?_⟩) ?_ ?_
                rotate_left
                · intro w'
                  go_simp
                  with_reducible rfl
                rotate_left
                · simp only [Act.put, List.setIfInBounds_toArray, List.set_cons_zero, List.set_cons_succ, i64_w, nW3.out]
                  rfl
                refine pure_ (i := 20) (N := some 163) (v := ?_) (a' := ?_) #[true, true, true, true, true, true, true, true, true, true, true, true, true, true, true, true, true, true, true, true, true, false, false, false] rfl rfl (by kernel_rfl) (fun _ _ _ h => h) (Or.inl ⟨by rfl, ?_⟩) ?_ ?_
                rotate_left
                · intro w'
                  go_simp
                  with_reducible rfl
                rotate_left
                · simp only [Act.put, List.setIfInBounds_toArray, List.set_cons_zero, List.set_cons_succ]
                  rfl
                refine one_ (i := 21) (N := some 164) #[true, true, true, true, true, true, true, true, true, true, true, true, true, true, true, true, true, true, true, true, true, true, false, false] rfl rfl (by kernel_rfl) (by decide) (fun K hK => ?_)
                refine goes_ Try.func58 (by kernel_rfl) rfl #[.slice (some (a5.add t.f1.toNat)) (t.f2.toNat - t.f1.toNat) (c5 - t.f1.toNat), .slice (some (a6.add t.f1.toNat)) (t.f2.toNat - t.f1.toNat) (c6 - t.f1.toNat)] (by rfl) rfl rfl (by simp only [List.map_toArray, List.map_cons, List.map_nil]; rfl) ?_
                have hcn := rBare_calls (some (a5.add t.f1.toNat)) (some (a6.add t.f1.toNat)) (c5 - t.f1.toNat) (c6 - t.f1.toNat) (mid x.f5 t.f1 t.f2) (mid x.f6 t.f1 t.f2) U0 (Kd.C_below HM5.out X.be) (Kd.C_below HM6.out X.be) (by rw [HK5.out, HK6.out]; exact Nat.le_refl _)
                rw [HK5.out, HK6.out, hnh] at hcn
                with_reducible refine (hcn).mono ?_
                rintro e u19 ⟨rfl, rfl⟩
                refine ⟨_, rfl, ?_⟩
                refine hK.out _ _ ⟨(blk_cell X.c 5).trans rfl, (blk_cell X.t 2).trans rfl, (blk_cell X.c 6).trans rfl⟩ (fun hHeld => ?_)
                clear hK K
                refine norm_ (a' := ?_) ?_ ?_
                rotate_left
                · show Act.put _ (some 164) _ = _
                  simp only [Act.put, List.setIfInBounds_toArray, List.set_cons_zero, List.set_cons_succ]
                  rfl
                refine pure_ (i := 22) (N := some 165) (v := ?_) (a' := ?_) #[true, true, true, true, true, true, true, true, true, true, true, true, true, true, true, true, true, true, true, true, true, true, true, false] rfl rfl (by kernel_rfl) (fun _ _ _ h => h) (Or.inl ⟨by rfl, ?_⟩) ?_ ?_
                rotate_left
                · intro w'
                  go_simp
                  with_reducible rfl
                rotate_left
                · simp only [Act.put, List.setIfInBounds_toArray, List.set_cons_zero, List.set_cons_succ]
                  rfl
                refine pure_ (i := 23) (N := some 166) (v := ?_) (a' := ?_) #[true, true, true, true, true, true, true, true, true, true, true, true, true, true, true, true, true, true, true, true, true, true, true, true] rfl rfl (by kernel_rfl) (fun _ _ _ h => h) (Or.inl ⟨by rfl, ?_⟩) ?_ ?_
                rotate_left
                · intro w'
                  go_simp
                  with_reducible rfl
                rotate_left
                · simp only [Act.put, List.setIfInBounds_toArray, List.set_cons_zero, List.set_cons_succ]
                  rfl
                refine done_ (by kernel_rfl) ?_
                have HL7 : Aside0 (x.f5.length = x.f6.length) := ⟨HL5.out.trans HL6.out.symm⟩
                go_wp2
                replace r1 := Kd.R_below r1 hbd
                replace r2 := Kd.R_below r2 hbd
                replace r8 := Kd.R_below r8 hbd
                replace r3 := Kd.R_below r3 hbd
                replace r4 := Kd.R_below r4 hbd
                have dzU := HS.d
                have hWsU : w.heap.size ≤ U0.heap.size := HS.be.size
                have hgdU : gd < U0.heap.size := blk_lt dzU
                clear hbd HS hHeld
                go_loopw [14] (fun i W5 => ∃ (p : Nat) (lh : List Int) (Ah : Option Addr) (ch : Nat) (lr : List ByteArray) (Ar : Option Addr) (cr : Nat), t.f1.toNat ≤ p ∧ p ≤ t.f2.toNat ∧ i = .int .i64 p ∧ Aside0 (lh = ((x.f5.take p).drop t.f1.toNat).map (fun h => if 0 ≤ h then h - t.f1 else h)) ∧ Aside0 (lr = (x.f6.take p).drop t.f1.toNat) ∧ Aside0 (lh.length ≤ p ∧ lr.length ≤ p) ∧ St w U0 gd #[.slice A2 x.f0.length cc2, .slice A9 (t.f2.toNat - t.f1.toNat) cc9, .slice (some ⟨g8, 0, none⟩) 1 1, .slice Av3 L3.length cv3, .slice Av4 L4.length cv4, .slice Ah lh.length ch, .slice Ar lr.length cr] W5 ∧ Aside0 ((Kd.int .i64).R 3 W5 U0.heap.size (fun b => b ≠ gd) (.slice Ah lh.length ch) lh) ∧ Aside0 (Kd.string.R 9 W5 U0.heap.size (fun b => b ≠ gd) (.slice Ar lr.length cr) lr)) (fun i _ => t.f2.toNat - (intOf i).toNat)
                case atStart => exact ⟨t.f1.toNat, [], none, 0, [], none, 0, Nat.le_refl _, by omega, by rw [Int.toNat_of_nonneg hb0], ⟨by rw [List.drop_eq_nil_of_le (by rw [List.length_take]; omega)]; rfl⟩, ⟨by rw [List.drop_eq_nil_of_le (by rw [List.length_take]; omega)]⟩, ⟨Nat.zero_le _, Nat.zero_le _⟩, St.refl X dzU, ⟨Kd.R_nil _ _ _ _ _⟩, ⟨Kd.R_nil _ _ _ _ _⟩⟩
                case round =>
                  rename World => W5
                  obtain ⟨p, lh, Ah, ch, lr, Ar, cr, hp1, hp2, rfl, HLH, HLR, HLL, HS, HRH, HRR⟩ := hrel
                  have HX := HS.xs X hwd (by omega)
                  have hsz := HS.size
                  have y12 := (blk_cell HX.t 2).trans rfl
                  by_cases hlt : p < t.f2.toNat
                  · have hlt' : (p : Int) < t.f1 + (t.f2 - t.f1) := by omega
                    have hp5 : p < x.f5.length := by have := HL5.out; omega
                    have hp6 : p < x.f6.length := by have := HL6.out; omega
                    obtain ⟨a5', hd, hA5, -, hh, q5⟩ := elI HG5 (bel_refl w) p hp5
                    obtain rfl := Option.some.inj hA5
                    obtain ⟨a6', f, hA6, -, hf, q6⟩ := elS HG6 (bel_refl w) p hp6
                    obtain rfl := Option.some.inj hA6
                    have hhd := HHD.out.2.2 hd (List.mem_of_getElem? hh.out)
                    have hnr := HNR.out p hd hh.out (by omega) (by omega)
                    have hbaseH : ∀ b, (Value.slice Ah lh.length ch).ownBlock = some b → U0.heap.size ≤ b := (Kd.R_own HRH.out).elim fun _ h => own_base h
                    have hbaseR : ∀ b, (Value.slice Ar lr.length cr).ownBlock = some b → U0.heap.size ≤ b := (Kd.R_own HRR.out).elim fun _ h => own_base h
                    have hp4 : p < 4096 := by omega
                    have n184 : Aside0 (Go.RowKit.wrap64 (hd - t.f1) = hd - t.f1) := ⟨by rw [← i64_w]; exact IntWalk.i64_in _ (by omega)⟩
                    go_wp2
                    have X5 := HX.drew
                    have HS5 := HS.drew
                    have hb5 : Below W5.heap.size W5 W5.drew := pw_below_drewN (Below.refl _ _) 1
                    have RH5 := Kd.R_below HRH.out hb5
                    have RR5 := Kd.R_below HRR.out hb5
                    have q5' := pw_cell_below X5.be q5
                    have hsz5 := HS5.size
                    by_cases h0 : t.f1 ≤ hd
                    · have hif : (if 0 ≤ hd then hd - t.f1 else hd) = hd - t.f1 := if_pos (by omega)
                      have HCH : Aside0 (lh ++ [(hd - t.f1)] = ((x.f5.take (p + 1)).drop t.f1.toNat).map (fun h => if 0 ≤ h then h - t.f1 else h)) := ⟨by rw [HLH.out, mid_succ hp1 hh.out, List.map_append, List.map_cons, List.map_nil, hif]⟩
                      have HCR : Aside0 (lr ++ [f] = (x.f6.take (p + 1)).drop t.f1.toNat) := ⟨by rw [HLR.out, mid_succ hp1 hf.out]⟩
                      have nMx : Aside0 ((if (-1 : Int) > hd - t.f1 then (-1 : Int) else hd - t.f1) = (hd - t.f1)) := ⟨by split <;> omega⟩
                      clear hif
                      refine start_ (n := 14) (S := fun w' => w'.cell? ⟨gd, 5, none⟩ = some (.slice Ah lh.length ch) ∧ w'.cell? ⟨w.heap.size, 5, none⟩ = some (.slice (some a5) x.f5.length c5) ∧ w'.cell? (a5.add p) = some (.int .i64 hd)) (ds := [13]) #[false, false, false, false, false, false, false, false, false, false, false, false, false, false] (by kernel_rfl) rfl rfl ⟨(blk_cell HS5.d 5).trans rfl, (blk_cell (HS5.xs X hwd (by omega)).c 5).trans rfl, pw_cell_below HS5.be q5⟩ (fun hHeld => ?_)
                      generalize W5.drew = U5 at X5 HS5 RH5 RR5 hsz5 hHeld ⊢
                      refine pure_ (i := 0) (N := some 176) (v := ?_) (a' := ?_) #[true, false, false, false, false, false, false, false, false, false, false, false, false, false] rfl rfl (by kernel_rfl) (fun _ _ _ h => h) (Or.inl ⟨by rfl, ?_⟩) ?_ ?_
                      rotate_left
                      · intro w'
                        go_simp
                        with_reducible rfl
                      rotate_left
                      · simp only [Act.put, List.setIfInBounds_toArray, List.set_cons_zero, List.set_cons_succ]
                        rfl
                      refine pure_ (i := 2) (N := some 178) (v := ?_) (a' := ?_) #[true, false, true, false, false, false, false, false, false, false, false, false, false, false] rfl rfl (by kernel_rfl) (fun _ _ _ h => h) (Or.inl ⟨by rfl, ?_⟩) ?_ ?_
                      rotate_left
                      · intro w'
                        go_simp
                        with_reducible rfl
                      rotate_left
                      · simp only [Act.put, List.setIfInBounds_toArray, List.set_cons_zero, List.set_cons_succ]
                        rfl
                      refine pure_ (i := 4) (N := some 180) (v := ?_) (a' := ?_) #[true, false, true, false, true, false, false, false, false, false, false, false, false, false] rfl rfl (by kernel_rfl) (fun _ _ _ h => h) (Or.inl ⟨by rfl, ?_⟩) ?_ ?_
                      rotate_left
                      · intro w'
                        go_simp
                        with_reducible rfl
                      rotate_left
                      · simp only [Act.put, List.setIfInBounds_toArray, List.set_cons_zero, List.set_cons_succ]
                        rfl
                      refine pure_ (i := 7) (N := some 183) (v := ?_) (a' := ?_) #[true, false, true, false, true, false, false, true, false, false, false, false, false, false] rfl rfl (by kernel_rfl) (fun _ _ _ h => h) (Or.inl ⟨by rfl, ?_⟩) ?_ ?_
                      rotate_left
                      · intro w'
                        go_simp
                        with_reducible rfl
                      rotate_left
                      · simp only [Act.put, List.setIfInBounds_toArray, List.set_cons_zero, List.set_cons_succ]
                        rfl
                      refine take_ (i := 1) (N := some 177) (v := ?_) (a' := ?_) #[true, true, true, false, true, false, false, true, false, false, false, false, false, false] rfl rfl (by kernel_rfl) (fun _ _ _ h => h) (Or.inl ⟨by rfl, ?_⟩) hHeld ?_ ?_
                      rotate_left
                      · rintro w' ⟨s0, s1, s2⟩
                        go_simp
                        with_reducible rfl
                      rotate_left
                      · simp only [Act.put, List.setIfInBounds_toArray, List.set_cons_zero, List.set_cons_succ]
                        rfl
                      refine take_ (i := 3) (N := some 179) (v := ?_) (a' := ?_) #[true, true, true, true, true, false, false, true, false, false, false, false, false, false] rfl rfl (by kernel_rfl) (fun _ _ _ h => h) (Or.inl ⟨by rfl, ?_⟩) hHeld ?_ ?_
                      rotate_left
                      · rintro w' ⟨s0, s1, s2⟩
                        go_simp
                        with_reducible rfl
                      rotate_left
                      · simp only [Act.put, List.setIfInBounds_toArray, List.set_cons_zero, List.set_cons_succ]
                        rfl
                      refine pure_ (i := 5) (N := some 181) (v := ?_) (a' := ?_) #[true, true, true, true, true, true, false, true, false, false, false, false, false, false] rfl rfl (by kernel_rfl) (fun _ _ _ h => h) (Or.inl ⟨by rfl, ?_⟩) ?_ ?_
                      rotate_left
                      · intro w'
                        go_simp
                        with_reducible rfl
                      rotate_left
                      · simp only [Act.put, List.setIfInBounds_toArray, List.set_cons_zero, List.set_cons_succ]
                        rfl
                      refine take_ (i := 6) (N := some 182) (v := ?_) (a' := ?_) #[true, true, true, true, true, true, true, true, false, false, false, false, false, false] rfl rfl (by kernel_rfl) (fun _ _ _ h => h) (Or.inl ⟨by rfl, ?_⟩) hHeld ?_ ?_
                      rotate_left
                      · rintro w' ⟨s0, s1, s2⟩
                        go_simp
                        with_reducible rfl
                      rotate_left
                      · simp only [Act.put, List.setIfInBounds_toArray, List.set_cons_zero, List.set_cons_succ]
                        rfl
                      refine pure_ (i := 8) (N := some 184) (v := ?_) (a' := ?_) #[true, true, true, true, true, true, true, true, true, false, false, false, false, false] rfl rfl (by kernel_rfl) (fun _ _ _ h => h) (Or.inl ⟨by rfl, ?_⟩) ?_ ?_
                      rotate_left
                      · intro w'
                        go_simp
                        with_reducible rfl
                      rotate_left
                      · simp only [Act.put, List.setIfInBounds_toArray, List.set_cons_zero, List.set_cons_succ, i64_w, n184.out]
                        rfl
                      refine pure_ (i := 9) (N := some 185) (v := ?_) (a' := ?_) #[true, true, true, true, true, true, true, true, true, true, false, false, false, false] rfl rfl (by kernel_rfl) (fun _ _ _ h => h) (Or.inl ⟨by rfl, ?_⟩) ?_ ?_
                      rotate_left
                      · intro w'
                        go_simp
                        with_reducible rfl
                      rotate_left
                      · simp only [Act.put, List.setIfInBounds_toArray, List.set_cons_zero, List.set_cons_succ, nMx.out]
                        rfl
                      refine one_ (i := 10) (N := some 186) #[true, true, true, true, true, true, true, true, true, true, true, false, false, false] rfl rfl (by kernel_rfl) (by decide) (fun K hK => ?_)
                      refine value_ (w1 := ?_) (v := ?_) (by rfl) rfl ?_ ?_
                      rotate_left 2
                      · go_simp
                        constructor
                        · rfl
                        · rfl
                      change K _ (U5.alloc (.cells #[.int .i64 (hd - t.f1)] 3))
                      refine hK.out _ _ ⟨(blk_cell (HS5.alloc _).d 5).trans rfl, (blk_cell ((HS5.alloc _).xs X hwd (by omega)).c 5).trans rfl, pw_cell_below (HS5.alloc _).be q5⟩ (fun hHeld => ?_)
                      clear hK K
                      refine norm_ (a' := ?_) ?_ ?_
                      rotate_left
                      · show Act.put _ (some 186) _ = _
                        simp only [Act.put, List.setIfInBounds_toArray, List.set_cons_zero, List.set_cons_succ]
                        rfl
                      refine one_ (i := 11) (N := some 187) #[true, true, true, true, true, true, true, true, true, true, true, true, false, false] rfl rfl (by kernel_rfl) (by decide) (fun K hK => ?_)
                      refine Kd.R_append_step (Kd.int .i64) (w0 := U5) (W := U5) U0.heap.size rfl (.tmp 177) (.tmp 186) 27 3 _ 8 rfl Try.underlying27 info3 rfl (by decide) (by decide) (.slice Ah lh.length ch) lh (hd - t.f1) [.int .i64 (hd - t.f1)] (fun b => b ≠ gd) (fun _ => False) rfl rfl rfl (fun _ h => h.elim) (fun b hb => by omega) RH5 (Below.refl _ _) hsz5 (by have := HLL.out; omega) ?_
                      intro v7 W7 hR7 _ hg7 _
                      generalize hlh : lh ++ [(hd - t.f1)] = lh2 at hR7
                      replace hlh := Aside0.mk hlh
                      obtain ⟨A7h, c7h, rfl⟩ := Kd.R_slice hR7
                      have HS7 := HS5.grown hg7 hbaseH hWsU hgdU
                      have HR7 := R_grown_ne RH5 RR5 (by simp [Kd.string, Kd.scalar]) hg7
                      refine hK.out _ _ ⟨(blk_cell HS7.d 5).trans rfl, (blk_cell (HS7.xs X hwd (by omega)).c 5).trans rfl, pw_cell_below HS7.be q5⟩ (fun hHeld => ?_)
                      clear hK K
                      refine norm_ (a' := ?_) ?_ ?_
                      rotate_left
                      · show Act.put _ (some 187) _ = _
                        simp only [Act.put, List.setIfInBounds_toArray, List.set_cons_zero, List.set_cons_succ]
                        rfl
                      refine pure_ (i := 12) (N := some 188) (v := ?_) (a' := ?_) #[true, true, true, true, true, true, true, true, true, true, true, true, true, false] rfl rfl (by kernel_rfl) (fun _ _ _ h => h) (Or.inl ⟨by rfl, ?_⟩) ?_ ?_
                      rotate_left
                      · intro w'
                        go_simp
                        with_reducible rfl
                      rotate_left
                      · simp only [Act.put, List.setIfInBounds_toArray, List.set_cons_zero, List.set_cons_succ]
                        rfl
                      refine last_ (i := 13) (N := none) #[true, true, true, true, true, true, true, true, true, true, true, true, true, true] rfl rfl (by kernel_rfl) (by decide) (fun K hK => ?_)
                      have zc := (blk_cell HS7.d 5).trans rfl
                      have zf := blk_frozen HS7.d 5
                      refine skip_ (w1 := ?_) (by rfl) rfl ?_ ?_
                      rotate_left
                      · go_simp
                        rfl
                      refine hK.out _ _ ?_
                      clear hK K
                      refine done_ (by kernel_rfl) ?_
                      go_wp2_with fail
                      have HSP := (HS7.put (by omega) 5 (.slice A7h lh2.length c7h) rfl).drew
                      have HR6 := Kd.R_far (p := ⟨gd, 5, none⟩) HR7 (fun _ h => h) (.slice A7h lh2.length c7h)
                      have HH6 := Kd.R_far (p := ⟨gd, 5, none⟩) hR7 (fun _ h => h) (.slice A7h lh2.length c7h)
                      replace HR6 := Kd.R_below HR6 (pw_below_drewN (Below.refl _ _) 1 : Below (W7.setCell ⟨gd, 5, none⟩ (.slice A7h lh2.length c7h)).heap.size (W7.setCell ⟨gd, 5, none⟩ (.slice A7h lh2.length c7h)) ((W7.setCell ⟨gd, 5, none⟩ (.slice A7h lh2.length c7h)).drewN 1))
                      replace HH6 := Kd.R_below HH6 (pw_below_drewN (Below.refl _ _) 1 : Below (W7.setCell ⟨gd, 5, none⟩ (.slice A7h lh2.length c7h)).heap.size (W7.setCell ⟨gd, 5, none⟩ (.slice A7h lh2.length c7h)) ((W7.setCell ⟨gd, 5, none⟩ (.slice A7h lh2.length c7h)).drewN 1))
                      change Kd.R _ _ (W7.setCell ⟨gd, 5, none⟩ (.slice A7h lh2.length c7h)).drew _ _ _ _ at HR6
                      change Kd.R _ _ (W7.setCell ⟨gd, 5, none⟩ (.slice A7h lh2.length c7h)).drew _ _ _ _ at HH6
                      have XP := HSP.xs X hwd (by omega)
                      have q6P := pw_cell_below HSP.be q6
                      have hszP := HSP.size
                      refine start_ (n := 11) (S := fun w' => w'.cell? ⟨gd, 6, none⟩ = some (.slice Ar lr.length cr) ∧ w'.cell? ⟨w.heap.size, 6, none⟩ = some (.slice (some a6) x.f6.length c6) ∧ w'.cell? (a6.add p) = some (.string f)) (ds := [10]) #[false, false, false, false, false, false, false, false, false, false, false] (by kernel_rfl) rfl rfl ⟨(blk_cell HSP.d 6).trans rfl, (blk_cell XP.c 6).trans rfl, q6P⟩ (fun hHeld => ?_)
                      generalize (W7.setCell ⟨gd, 5, none⟩ (.slice A7h lh2.length c7h)).drew = U6 at HSP HR6 HH6 XP q6P hszP hHeld ⊢
                      refine pure_ (i := 0) (N := some 189) (v := ?_) (a' := ?_) #[true, false, false, false, false, false, false, false, false, false, false] rfl rfl (by kernel_rfl) (fun _ _ _ h => h) (Or.inl ⟨by rfl, ?_⟩) ?_ ?_
                      rotate_left
                      · intro w'
                        go_simp
                        with_reducible rfl
                      rotate_left
                      · simp only [Act.put, List.setIfInBounds_toArray, List.set_cons_zero, List.set_cons_succ]
                        rfl
                      refine pure_ (i := 2) (N := some 191) (v := ?_) (a' := ?_) #[true, false, true, false, false, false, false, false, false, false, false] rfl rfl (by kernel_rfl) (fun _ _ _ h => h) (Or.inl ⟨by rfl, ?_⟩) ?_ ?_
                      rotate_left
                      · intro w'
                        go_simp
                        with_reducible rfl
                      rotate_left
                      · simp only [Act.put, List.setIfInBounds_toArray, List.set_cons_zero, List.set_cons_succ]
                        rfl
                      refine pure_ (i := 4) (N := some 193) (v := ?_) (a' := ?_) #[true, false, true, false, true, false, false, false, false, false, false] rfl rfl (by kernel_rfl) (fun _ _ _ h => h) (Or.inl ⟨by rfl, ?_⟩) ?_ ?_
                      rotate_left
                      · intro w'
                        go_simp
                        with_reducible rfl
                      rotate_left
                      · simp only [Act.put, List.setIfInBounds_toArray, List.set_cons_zero, List.set_cons_succ]
                        rfl
                      refine take_ (i := 1) (N := some 190) (v := ?_) (a' := ?_) #[true, true, true, false, true, false, false, false, false, false, false] rfl rfl (by kernel_rfl) (fun _ _ _ h => h) (Or.inl ⟨by rfl, ?_⟩) hHeld ?_ ?_
                      rotate_left
                      · rintro w' ⟨s0, s1, s2⟩
                        go_simp
                        with_reducible rfl
                      rotate_left
                      · simp only [Act.put, List.setIfInBounds_toArray, List.set_cons_zero, List.set_cons_succ]
                        rfl
                      refine take_ (i := 3) (N := some 192) (v := ?_) (a' := ?_) #[true, true, true, true, true, false, false, false, false, false, false] rfl rfl (by kernel_rfl) (fun _ _ _ h => h) (Or.inl ⟨by rfl, ?_⟩) hHeld ?_ ?_
                      rotate_left
                      · rintro w' ⟨s0, s1, s2⟩
                        go_simp
                        with_reducible rfl
                      rotate_left
                      · simp only [Act.put, List.setIfInBounds_toArray, List.set_cons_zero, List.set_cons_succ]
                        rfl
                      refine pure_ (i := 5) (N := some 194) (v := ?_) (a' := ?_) #[true, true, true, true, true, true, false, false, false, false, false] rfl rfl (by kernel_rfl) (fun _ _ _ h => h) (Or.inl ⟨by rfl, ?_⟩) ?_ ?_
                      rotate_left
                      · intro w'
                        go_simp
                        with_reducible rfl
                      rotate_left
                      · simp only [Act.put, List.setIfInBounds_toArray, List.set_cons_zero, List.set_cons_succ]
                        rfl
                      refine take_ (i := 6) (N := some 195) (v := ?_) (a' := ?_) #[true, true, true, true, true, true, true, false, false, false, false] rfl rfl (by kernel_rfl) (fun _ _ _ h => h) (Or.inl ⟨by rfl, ?_⟩) hHeld ?_ ?_
                      rotate_left
                      · rintro w' ⟨s0, s1, s2⟩
                        go_simp
                        with_reducible rfl
                      rotate_left
                      · simp only [Act.put, List.setIfInBounds_toArray, List.set_cons_zero, List.set_cons_succ]
                        rfl
                      refine one_ (i := 7) (N := some 196) #[true, true, true, true, true, true, true, true, false, false, false] rfl rfl (by kernel_rfl) (by decide) (fun K hK => ?_)
                      refine value_ (w1 := ?_) (v := ?_) (by rfl) rfl ?_ ?_
                      rotate_left 2
                      · go_simp
                        constructor
                        · rfl
                        · rfl
                      change K _ (U6.alloc (.cells #[.string f] 9))
                      refine hK.out _ _ ⟨(blk_cell (HSP.alloc _).d 6).trans rfl, (blk_cell ((HSP.alloc _).xs X hwd (by omega)).c 6).trans rfl, pw_cell_below (HSP.alloc _).be q6⟩ (fun hHeld => ?_)
                      clear hK K
                      refine norm_ (a' := ?_) ?_ ?_
                      rotate_left
                      · show Act.put _ (some 196) _ = _
                        simp only [Act.put, List.setIfInBounds_toArray, List.set_cons_zero, List.set_cons_succ]
                        rfl
                      refine one_ (i := 8) (N := some 197) #[true, true, true, true, true, true, true, true, true, false, false] rfl rfl (by kernel_rfl) (by decide) (fun K hK => ?_)
                      refine Kd.R_append_step Kd.string (w0 := U6) (W := U6) U0.heap.size rfl (.tmp 190) (.tmp 196) 28 9 _ 16 rfl Try.underlying28 info9 rfl (by decide) (by decide) (.slice Ar lr.length cr) lr f [.string f] (fun b => b ≠ gd) (fun _ => False) rfl rfl rfl (fun _ h => h.elim) (fun b hb => by omega) HR6 (Below.refl _ _) hszP (by have := HLL.out; omega) ?_
                      intro v8 u8 hR8 _ hg8 _
                      generalize hlr : lr ++ [f] = lr2 at hR8
                      replace hlr := Aside0.mk hlr
                      obtain ⟨A8e, c8e, rfl⟩ := Kd.R_slice hR8
                      have HS8 := HSP.grown hg8 hbaseR hWsU hgdU
                      have HH8 := R_grown_ne HR6 HH6 (by simp [Kd.int, Kd.scalar]) hg8
                      refine hK.out _ _ ⟨(blk_cell HS8.d 6).trans rfl, (blk_cell (HS8.xs X hwd (by omega)).c 6).trans rfl, pw_cell_below HS8.be q6⟩ (fun hHeld => ?_)
                      clear hK K
                      refine norm_ (a' := ?_) ?_ ?_
                      rotate_left
                      · show Act.put _ (some 197) _ = _
                        simp only [Act.put, List.setIfInBounds_toArray, List.set_cons_zero, List.set_cons_succ]
                        rfl
                      refine pure_ (i := 9) (N := some 198) (v := ?_) (a' := ?_) #[true, true, true, true, true, true, true, true, true, true, false] rfl rfl (by kernel_rfl) (fun _ _ _ h => h) (Or.inl ⟨by rfl, ?_⟩) ?_ ?_
                      rotate_left
                      · intro w'
                        go_simp
                        with_reducible rfl
                      rotate_left
                      · simp only [Act.put, List.setIfInBounds_toArray, List.set_cons_zero, List.set_cons_succ]
                        rfl
                      refine last_ (i := 10) (N := none) #[true, true, true, true, true, true, true, true, true, true, true] rfl rfl (by kernel_rfl) (by decide) (fun K hK => ?_)
                      have zc := (blk_cell HS8.d 6).trans rfl
                      have zf := blk_frozen HS8.d 6
                      refine skip_ (w1 := ?_) (by rfl) rfl ?_ ?_
                      rotate_left
                      · go_simp
                        rfl
                      refine hK.out _ _ ?_
                      clear hK K
                      refine done_ (by kernel_rfl) ?_
                      go_wp2_with fail
                      go_roundw
                      case rel => exact ⟨p + 1, lh2, A7h, c7h, lr2, A8e, c8e, by omega, by omega, by go_num, ⟨by rw [← hlh.out]; exact HCH.out⟩, ⟨by rw [← hlr.out]; exact HCR.out⟩, ⟨by have := HLL.out; rw [← hlh.out, ← hlr.out, List.length_append, List.length_append, List.length_singleton, List.length_singleton]; omega⟩, HS8.put (by omega) 6 _ rfl, ⟨Kd.R_far (p := ⟨gd, 6, none⟩) HH8 (fun _ h => h) _⟩, ⟨Kd.R_far (p := ⟨gd, 6, none⟩) hR8 (fun _ h => h) _⟩⟩
                      case measure => simp [intOf]; omega
                    · have hdn : hd = -1 := by omega
                      have hif : (if 0 ≤ hd then hd - t.f1 else hd) = -1 := by rw [if_neg (by omega)]; exact hdn
                      have HCH : Aside0 (lh ++ [(-1)] = ((x.f5.take (p + 1)).drop t.f1.toNat).map (fun h => if 0 ≤ h then h - t.f1 else h)) := ⟨by rw [HLH.out, mid_succ hp1 hh.out, List.map_append, List.map_cons, List.map_nil, hif]⟩
                      have HCR : Aside0 (lr ++ [f] = (x.f6.take (p + 1)).drop t.f1.toNat) := ⟨by rw [HLR.out, mid_succ hp1 hf.out]⟩
                      have nMx : Aside0 ((if (-1 : Int) > hd - t.f1 then (-1 : Int) else hd - t.f1) = (-1)) := ⟨by split <;> omega⟩
                      clear hif hdn
                      refine start_ (n := 14) (S := fun w' => w'.cell? ⟨gd, 5, none⟩ = some (.slice Ah lh.length ch) ∧ w'.cell? ⟨w.heap.size, 5, none⟩ = some (.slice (some a5) x.f5.length c5) ∧ w'.cell? (a5.add p) = some (.int .i64 hd)) (ds := [13]) #[false, false, false, false, false, false, false, false, false, false, false, false, false, false] (by kernel_rfl) rfl rfl ⟨(blk_cell HS5.d 5).trans rfl, (blk_cell (HS5.xs X hwd (by omega)).c 5).trans rfl, pw_cell_below HS5.be q5⟩ (fun hHeld => ?_)
                      generalize W5.drew = U5 at X5 HS5 RH5 RR5 hsz5 hHeld ⊢
                      refine pure_ (i := 0) (N := some 176) (v := ?_) (a' := ?_) #[true, false, false, false, false, false, false, false, false, false, false, false, false, false] rfl rfl (by kernel_rfl) (fun _ _ _ h => h) (Or.inl ⟨by rfl, ?_⟩) ?_ ?_
                      rotate_left
                      · intro w'
                        go_simp
                        with_reducible rfl
                      rotate_left
                      · simp only [Act.put, List.setIfInBounds_toArray, List.set_cons_zero, List.set_cons_succ]
                        rfl
                      refine pure_ (i := 2) (N := some 178) (v := ?_) (a' := ?_) #[true, false, true, false, false, false, false, false, false, false, false, false, false, false] rfl rfl (by kernel_rfl) (fun _ _ _ h => h) (Or.inl ⟨by rfl, ?_⟩) ?_ ?_
                      rotate_left
                      · intro w'
                        go_simp
                        with_reducible rfl
                      rotate_left
                      · simp only [Act.put, List.setIfInBounds_toArray, List.set_cons_zero, List.set_cons_succ]
                        rfl
                      refine pure_ (i := 4) (N := some 180) (v := ?_) (a' := ?_) #[true, false, true, false, true, false, false, false, false, false, false, false, false, false] rfl rfl (by kernel_rfl) (fun _ _ _ h => h) (Or.inl ⟨by rfl, ?_⟩) ?_ ?_
                      rotate_left
                      · intro w'
                        go_simp
                        with_reducible rfl
                      rotate_left
                      · simp only [Act.put, List.setIfInBounds_toArray, List.set_cons_zero, List.set_cons_succ]
                        rfl
                      refine pure_ (i := 7) (N := some 183) (v := ?_) (a' := ?_) #[true, false, true, false, true, false, false, true, false, false, false, false, false, false] rfl rfl (by kernel_rfl) (fun _ _ _ h => h) (Or.inl ⟨by rfl, ?_⟩) ?_ ?_
                      rotate_left
                      · intro w'
                        go_simp
                        with_reducible rfl
                      rotate_left
                      · simp only [Act.put, List.setIfInBounds_toArray, List.set_cons_zero, List.set_cons_succ]
                        rfl
                      refine take_ (i := 1) (N := some 177) (v := ?_) (a' := ?_) #[true, true, true, false, true, false, false, true, false, false, false, false, false, false] rfl rfl (by kernel_rfl) (fun _ _ _ h => h) (Or.inl ⟨by rfl, ?_⟩) hHeld ?_ ?_
                      rotate_left
                      · rintro w' ⟨s0, s1, s2⟩
                        go_simp
                        with_reducible rfl
                      rotate_left
                      · simp only [Act.put, List.setIfInBounds_toArray, List.set_cons_zero, List.set_cons_succ]
                        rfl
                      refine take_ (i := 3) (N := some 179) (v := ?_) (a' := ?_) #[true, true, true, true, true, false, false, true, false, false, false, false, false, false] rfl rfl (by kernel_rfl) (fun _ _ _ h => h) (Or.inl ⟨by rfl, ?_⟩) hHeld ?_ ?_
                      rotate_left
                      · rintro w' ⟨s0, s1, s2⟩
                        go_simp
                        with_reducible rfl
                      rotate_left
                      · simp only [Act.put, List.setIfInBounds_toArray, List.set_cons_zero, List.set_cons_succ]
                        rfl
                      refine pure_ (i := 5) (N := some 181) (v := ?_) (a' := ?_) #[true, true, true, true, true, true, false, true, false, false, false, false, false, false] rfl rfl (by kernel_rfl) (fun _ _ _ h => h) (Or.inl ⟨by rfl, ?_⟩) ?_ ?_
                      rotate_left
                      · intro w'
                        go_simp
                        with_reducible rfl
                      rotate_left
                      · simp only [Act.put, List.setIfInBounds_toArray, List.set_cons_zero, List.set_cons_succ]
                        rfl
                      refine take_ (i := 6) (N := some 182) (v := ?_) (a' := ?_) #[true, true, true, true, true, true, true, true, false, false, false, false, false, false] rfl rfl (by kernel_rfl) (fun _ _ _ h => h) (Or.inl ⟨by rfl, ?_⟩) hHeld ?_ ?_
                      rotate_left
                      · rintro w' ⟨s0, s1, s2⟩
                        go_simp
                        with_reducible rfl
                      rotate_left
                      · simp only [Act.put, List.setIfInBounds_toArray, List.set_cons_zero, List.set_cons_succ]
                        rfl
                      refine pure_ (i := 8) (N := some 184) (v := ?_) (a' := ?_) #[true, true, true, true, true, true, true, true, true, false, false, false, false, false] rfl rfl (by kernel_rfl) (fun _ _ _ h => h) (Or.inl ⟨by rfl, ?_⟩) ?_ ?_
                      rotate_left
                      · intro w'
                        go_simp
                        with_reducible rfl
                      rotate_left
                      · simp only [Act.put, List.setIfInBounds_toArray, List.set_cons_zero, List.set_cons_succ, i64_w, n184.out]
                        rfl
                      refine pure_ (i := 9) (N := some 185) (v := ?_) (a' := ?_) #[true, true, true, true, true, true, true, true, true, true, false, false, false, false] rfl rfl (by kernel_rfl) (fun _ _ _ h => h) (Or.inl ⟨by rfl, ?_⟩) ?_ ?_
                      rotate_left
                      · intro w'
                        go_simp
                        with_reducible rfl
                      rotate_left
                      · simp only [Act.put, List.setIfInBounds_toArray, List.set_cons_zero, List.set_cons_succ, nMx.out]
                        rfl
                      refine one_ (i := 10) (N := some 186) #[true, true, true, true, true, true, true, true, true, true, true, false, false, false] rfl rfl (by kernel_rfl) (by decide) (fun K hK => ?_)
                      refine value_ (w1 := ?_) (v := ?_) (by rfl) rfl ?_ ?_
                      rotate_left 2
                      · go_simp
                        constructor
                        · rfl
                        · rfl
                      change K _ (U5.alloc (.cells #[.int .i64 (-1)] 3))
                      refine hK.out _ _ ⟨(blk_cell (HS5.alloc _).d 5).trans rfl, (blk_cell ((HS5.alloc _).xs X hwd (by omega)).c 5).trans rfl, pw_cell_below (HS5.alloc _).be q5⟩ (fun hHeld => ?_)
                      clear hK K
                      refine norm_ (a' := ?_) ?_ ?_
                      rotate_left
                      · show Act.put _ (some 186) _ = _
                        simp only [Act.put, List.setIfInBounds_toArray, List.set_cons_zero, List.set_cons_succ]
                        rfl
                      refine one_ (i := 11) (N := some 187) #[true, true, true, true, true, true, true, true, true, true, true, true, false, false] rfl rfl (by kernel_rfl) (by decide) (fun K hK => ?_)
                      refine Kd.R_append_step (Kd.int .i64) (w0 := U5) (W := U5) U0.heap.size rfl (.tmp 177) (.tmp 186) 27 3 _ 8 rfl Try.underlying27 info3 rfl (by decide) (by decide) (.slice Ah lh.length ch) lh (-1) [.int .i64 (-1)] (fun b => b ≠ gd) (fun _ => False) rfl rfl rfl (fun _ h => h.elim) (fun b hb => by omega) RH5 (Below.refl _ _) hsz5 (by have := HLL.out; omega) ?_
                      intro v7 W7 hR7 _ hg7 _
                      generalize hlh : lh ++ [(-1)] = lh2 at hR7
                      replace hlh := Aside0.mk hlh
                      obtain ⟨A7h, c7h, rfl⟩ := Kd.R_slice hR7
                      have HS7 := HS5.grown hg7 hbaseH hWsU hgdU
                      have HR7 := R_grown_ne RH5 RR5 (by simp [Kd.string, Kd.scalar]) hg7
                      refine hK.out _ _ ⟨(blk_cell HS7.d 5).trans rfl, (blk_cell (HS7.xs X hwd (by omega)).c 5).trans rfl, pw_cell_below HS7.be q5⟩ (fun hHeld => ?_)
                      clear hK K
                      refine norm_ (a' := ?_) ?_ ?_
                      rotate_left
                      · show Act.put _ (some 187) _ = _
                        simp only [Act.put, List.setIfInBounds_toArray, List.set_cons_zero, List.set_cons_succ]
                        rfl
                      refine pure_ (i := 12) (N := some 188) (v := ?_) (a' := ?_) #[true, true, true, true, true, true, true, true, true, true, true, true, true, false] rfl rfl (by kernel_rfl) (fun _ _ _ h => h) (Or.inl ⟨by rfl, ?_⟩) ?_ ?_
                      rotate_left
                      · intro w'
                        go_simp
                        with_reducible rfl
                      rotate_left
                      · simp only [Act.put, List.setIfInBounds_toArray, List.set_cons_zero, List.set_cons_succ]
                        rfl
                      refine last_ (i := 13) (N := none) #[true, true, true, true, true, true, true, true, true, true, true, true, true, true] rfl rfl (by kernel_rfl) (by decide) (fun K hK => ?_)
                      have zc := (blk_cell HS7.d 5).trans rfl
                      have zf := blk_frozen HS7.d 5
                      refine skip_ (w1 := ?_) (by rfl) rfl ?_ ?_
                      rotate_left
                      · go_simp
                        rfl
                      refine hK.out _ _ ?_
                      clear hK K
                      refine done_ (by kernel_rfl) ?_
                      go_wp2_with fail
                      have HSP := (HS7.put (by omega) 5 (.slice A7h lh2.length c7h) rfl).drew
                      have HR6 := Kd.R_far (p := ⟨gd, 5, none⟩) HR7 (fun _ h => h) (.slice A7h lh2.length c7h)
                      have HH6 := Kd.R_far (p := ⟨gd, 5, none⟩) hR7 (fun _ h => h) (.slice A7h lh2.length c7h)
                      replace HR6 := Kd.R_below HR6 (pw_below_drewN (Below.refl _ _) 1 : Below (W7.setCell ⟨gd, 5, none⟩ (.slice A7h lh2.length c7h)).heap.size (W7.setCell ⟨gd, 5, none⟩ (.slice A7h lh2.length c7h)) ((W7.setCell ⟨gd, 5, none⟩ (.slice A7h lh2.length c7h)).drewN 1))
                      replace HH6 := Kd.R_below HH6 (pw_below_drewN (Below.refl _ _) 1 : Below (W7.setCell ⟨gd, 5, none⟩ (.slice A7h lh2.length c7h)).heap.size (W7.setCell ⟨gd, 5, none⟩ (.slice A7h lh2.length c7h)) ((W7.setCell ⟨gd, 5, none⟩ (.slice A7h lh2.length c7h)).drewN 1))
                      change Kd.R _ _ (W7.setCell ⟨gd, 5, none⟩ (.slice A7h lh2.length c7h)).drew _ _ _ _ at HR6
                      change Kd.R _ _ (W7.setCell ⟨gd, 5, none⟩ (.slice A7h lh2.length c7h)).drew _ _ _ _ at HH6
                      have XP := HSP.xs X hwd (by omega)
                      have q6P := pw_cell_below HSP.be q6
                      have hszP := HSP.size
                      refine start_ (n := 11) (S := fun w' => w'.cell? ⟨gd, 6, none⟩ = some (.slice Ar lr.length cr) ∧ w'.cell? ⟨w.heap.size, 6, none⟩ = some (.slice (some a6) x.f6.length c6) ∧ w'.cell? (a6.add p) = some (.string f)) (ds := [10]) #[false, false, false, false, false, false, false, false, false, false, false] (by kernel_rfl) rfl rfl ⟨(blk_cell HSP.d 6).trans rfl, (blk_cell XP.c 6).trans rfl, q6P⟩ (fun hHeld => ?_)
                      generalize (W7.setCell ⟨gd, 5, none⟩ (.slice A7h lh2.length c7h)).drew = U6 at HSP HR6 HH6 XP q6P hszP hHeld ⊢
                      refine pure_ (i := 0) (N := some 189) (v := ?_) (a' := ?_) #[true, false, false, false, false, false, false, false, false, false, false] rfl rfl (by kernel_rfl) (fun _ _ _ h => h) (Or.inl ⟨by rfl, ?_⟩) ?_ ?_
                      rotate_left
                      · intro w'
                        go_simp
                        with_reducible rfl
                      rotate_left
                      · simp only [Act.put, List.setIfInBounds_toArray, List.set_cons_zero, List.set_cons_succ]
                        rfl
                      refine pure_ (i := 2) (N := some 191) (v := ?_) (a' := ?_) #[true, false, true, false, false, false, false, false, false, false, false] rfl rfl (by kernel_rfl) (fun _ _ _ h => h) (Or.inl ⟨by rfl, ?_⟩) ?_ ?_
                      rotate_left
                      · intro w'
                        go_simp
                        with_reducible rfl
                      rotate_left
                      · simp only [Act.put, List.setIfInBounds_toArray, List.set_cons_zero, List.set_cons_succ]
                        rfl
                      refine pure_ (i := 4) (N := some 193) (v := ?_) (a' := ?_) #[true, false, true, false, true, false, false, false, false, false, false] rfl rfl (by kernel_rfl) (fun _ _ _ h => h) (Or.inl ⟨by rfl, ?_⟩) ?_ ?_
                      rotate_left
                      · intro w'
                        go_simp
                        with_reducible rfl
                      rotate_left
                      · simp only [Act.put, List.setIfInBounds_toArray, List.set_cons_zero, List.set_cons_succ]
                        rfl
                      refine take_ (i := 1) (N := some 190) (v := ?_) (a' := ?_) #[true, true, true, false, true, false, false, false, false, false, false] rfl rfl (by kernel_rfl) (fun _ _ _ h => h) (Or.inl ⟨by rfl, ?_⟩) hHeld ?_ ?_
                      rotate_left
                      · rintro w' ⟨s0, s1, s2⟩
                        go_simp
                        with_reducible rfl
                      rotate_left
                      · simp only [Act.put, List.setIfInBounds_toArray, List.set_cons_zero, List.set_cons_succ]
                        rfl
                      refine take_ (i := 3) (N := some 192) (v := ?_) (a' := ?_) #[true, true, true, true, true, false, false, false, false, false, false] rfl rfl (by kernel_rfl) (fun _ _ _ h => h) (Or.inl ⟨by rfl, ?_⟩) hHeld ?_ ?_
                      rotate_left
                      · rintro w' ⟨s0, s1, s2⟩
                        go_simp
                        with_reducible rfl
                      rotate_left
                      · simp only [Act.put, List.setIfInBounds_toArray, List.set_cons_zero, List.set_cons_succ]
                        rfl
                      refine pure_ (i := 5) (N := some 194) (v := ?_) (a' := ?_) #[true, true, true, true, true, true, false, false, false, false, false] rfl rfl (by kernel_rfl) (fun _ _ _ h => h) (Or.inl ⟨by rfl, ?_⟩) ?_ ?_
                      rotate_left
                      · intro w'
                        go_simp
                        with_reducible rfl
                      rotate_left
                      · simp only [Act.put, List.setIfInBounds_toArray, List.set_cons_zero, List.set_cons_succ]
                        rfl
                      refine take_ (i := 6) (N := some 195) (v := ?_) (a' := ?_) #[true, true, true, true, true, true, true, false, false, false, false] rfl rfl (by kernel_rfl) (fun _ _ _ h => h) (Or.inl ⟨by rfl, ?_⟩) hHeld ?_ ?_
                      rotate_left
                      · rintro w' ⟨s0, s1, s2⟩
                        go_simp
                        with_reducible rfl
                      rotate_left
                      · simp only [Act.put, List.setIfInBounds_toArray, List.set_cons_zero, List.set_cons_succ]
                        rfl
                      refine one_ (i := 7) (N := some 196) #[true, true, true, true, true, true, true, true, false, false, false] rfl rfl (by kernel_rfl) (by decide) (fun K hK => ?_)
                      refine value_ (w1 := ?_) (v := ?_) (by rfl) rfl ?_ ?_
                      rotate_left 2
                      · go_simp
                        constructor
                        · rfl
                        · rfl
                      change K _ (U6.alloc (.cells #[.string f] 9))
                      refine hK.out _ _ ⟨(blk_cell (HSP.alloc _).d 6).trans rfl, (blk_cell ((HSP.alloc _).xs X hwd (by omega)).c 6).trans rfl, pw_cell_below (HSP.alloc _).be q6⟩ (fun hHeld => ?_)
                      clear hK K
                      refine norm_ (a' := ?_) ?_ ?_
                      rotate_left
                      · show Act.put _ (some 196) _ = _
                        simp only [Act.put, List.setIfInBounds_toArray, List.set_cons_zero, List.set_cons_succ]
                        rfl
                      refine one_ (i := 8) (N := some 197) #[true, true, true, true, true, true, true, true, true, false, false] rfl rfl (by kernel_rfl) (by decide) (fun K hK => ?_)
                      refine Kd.R_append_step Kd.string (w0 := U6) (W := U6) U0.heap.size rfl (.tmp 190) (.tmp 196) 28 9 _ 16 rfl Try.underlying28 info9 rfl (by decide) (by decide) (.slice Ar lr.length cr) lr f [.string f] (fun b => b ≠ gd) (fun _ => False) rfl rfl rfl (fun _ h => h.elim) (fun b hb => by omega) HR6 (Below.refl _ _) hszP (by have := HLL.out; omega) ?_
                      intro v8 u8 hR8 _ hg8 _
                      generalize hlr : lr ++ [f] = lr2 at hR8
                      replace hlr := Aside0.mk hlr
                      obtain ⟨A8e, c8e, rfl⟩ := Kd.R_slice hR8
                      have HS8 := HSP.grown hg8 hbaseR hWsU hgdU
                      have HH8 := R_grown_ne HR6 HH6 (by simp [Kd.int, Kd.scalar]) hg8
                      refine hK.out _ _ ⟨(blk_cell HS8.d 6).trans rfl, (blk_cell (HS8.xs X hwd (by omega)).c 6).trans rfl, pw_cell_below HS8.be q6⟩ (fun hHeld => ?_)
                      clear hK K
                      refine norm_ (a' := ?_) ?_ ?_
                      rotate_left
                      · show Act.put _ (some 197) _ = _
                        simp only [Act.put, List.setIfInBounds_toArray, List.set_cons_zero, List.set_cons_succ]
                        rfl
                      refine pure_ (i := 9) (N := some 198) (v := ?_) (a' := ?_) #[true, true, true, true, true, true, true, true, true, true, false] rfl rfl (by kernel_rfl) (fun _ _ _ h => h) (Or.inl ⟨by rfl, ?_⟩) ?_ ?_
                      rotate_left
                      · intro w'
                        go_simp
                        with_reducible rfl
                      rotate_left
                      · simp only [Act.put, List.setIfInBounds_toArray, List.set_cons_zero, List.set_cons_succ]
                        rfl
                      refine last_ (i := 10) (N := none) #[true, true, true, true, true, true, true, true, true, true, true] rfl rfl (by kernel_rfl) (by decide) (fun K hK => ?_)
                      have zc := (blk_cell HS8.d 6).trans rfl
                      have zf := blk_frozen HS8.d 6
                      refine skip_ (w1 := ?_) (by rfl) rfl ?_ ?_
                      rotate_left
                      · go_simp
                        rfl
                      refine hK.out _ _ ?_
                      clear hK K
                      refine done_ (by kernel_rfl) ?_
                      go_wp2_with fail
                      go_roundw
                      case rel => exact ⟨p + 1, lh2, A7h, c7h, lr2, A8e, c8e, by omega, by omega, by go_num, ⟨by rw [← hlh.out]; exact HCH.out⟩, ⟨by rw [← hlr.out]; exact HCR.out⟩, ⟨by have := HLL.out; rw [← hlh.out, ← hlr.out, List.length_append, List.length_append, List.length_singleton, List.length_singleton]; omega⟩, HS8.put (by omega) 6 _ rfl, ⟨Kd.R_far (p := ⟨gd, 6, none⟩) HH8 (fun _ h => h) _⟩, ⟨Kd.R_far (p := ⟨gd, 6, none⟩) hR8 (fun _ h => h) _⟩⟩
                      case measure => simp [intOf]; omega
                  · obtain rfl : p = t.f2.toNat := by omega
                    have hnlt : ¬ ((t.f2.toNat : Nat) : Int) < t.f1 + (t.f2 - t.f1) := by omega
                    replace r1 := Kd.R_keep r1 HS.kp (fun _ h => h)
                    replace r2 := Kd.R_keep r2 HS.kp (fun _ h => h)
                    replace r8 := Kd.R_keep r8 HS.kp (fun _ h => h)
                    replace r3 := Kd.R_keep r3 HS.kp (fun _ h => h)
                    replace r4 := Kd.R_keep r4 HS.kp (fun _ h => h)
                    have r5 := HRH.out
                    have r6 := HRR.out
                    clear HRH HRR HLL
                    replace X := HX
                    have z0 := (blk_cell HS.d 0).trans rfl
                    have z1 := (blk_cell HS.d 1).trans rfl
                    have z2 := (blk_cell HS.d 2).trans rfl
                    have z3 := (blk_cell HS.d 3).trans rfl
                    have z4 := (blk_cell HS.d 4).trans rfl
                    have z5 := (blk_cell HS.d 5).trans rfl
                    have z6 := (blk_cell HS.d 6).trans rfl
                    have zr0 := (blk_cell X.r 0).trans rfl
                    have zr1 := (blk_cell X.r 1).trans rfl
                    have zr2 := (blk_cell X.r 2).trans rfl
                    have zr3 := (blk_cell X.r 3).trans rfl
                    have zr4 := (blk_cell X.r 4).trans rfl
                    have zr5 := (blk_cell X.r 5).trans rfl
                    have zr6 := (blk_cell X.r 6).trans rfl
                    have zf0 := blk_frozen X.r 0
                    have zf1 := blk_frozen X.r 1
                    have zf2 := blk_frozen X.r 2
                    have zf3 := blk_frozen X.r 3
                    have zf4 := blk_frozen X.r 4
                    have zf5 := blk_frozen X.r 5
                    have zf6 := blk_frozen X.r 6
                    go_wp2
                    clear z0 z1 z2 z3 z4 z5 z6 zr0 zr1 zr2 zr3 zr4 zr5 zr6 zf0 zf1 zf2 zf3 zf4 zf5 zf6
                    have hzr := put7_blk X.r (.slice A2 x.f0.length cc2) (.slice A9 (t.f2.toNat - t.f1.toNat) cc9) (.slice (some ⟨g8, 0, none⟩) 1 1) (.slice Av3 L3.length cv3) (.slice Av4 L4.length cv4) (.slice Ah lh.length ch) (.slice Ar lr.length cr)
                    have hwr := put7_below (g := w.heap.size + 1) X.be (by omega) (.slice A2 x.f0.length cc2) (.slice A9 (t.f2.toNat - t.f1.toNat) cc9) (.slice (some ⟨g8, 0, none⟩) 1 1) (.slice Av3 L3.length cv3) (.slice Av4 L4.length cv4) (.slice Ah lh.length ch) (.slice Ar lr.length cr)
                    refine bodyPost_ret (results_ct rfl _ (put7 W5 (w.heap.size + 1) (.slice A2 x.f0.length cc2) (.slice A9 (t.f2.toNat - t.f1.toNat) cc9) (.slice (some ⟨g8, 0, none⟩) 1 1) (.slice Av3 L3.length cv3) (.slice Av4 L4.length cv4) (.slice Ah lh.length ch) (.slice Ar lr.length cr)) (w.heap.size + 1) 30 #[.slice A2 x.f0.length cc2, .slice A9 (t.f2.toNat - t.f1.toNat) cc9, .slice (some ⟨g8, 0, none⟩) 1 1, .slice Av3 L3.length cv3, .slice Av4 L4.length cv4, .slice Ah lh.length ch, .slice Ar lr.length cr] (0, 0) _ rfl hzr Try.underlying30 rfl (by kernel_rfl)) rfl ?_
                    refine ⟨[.slice A2 x.f0.length cc2, .slice A9 (t.f2.toNat - t.f1.toNat) cc9, .slice (some ⟨g8, 0, none⟩) 1 1, .slice Av3 L3.length cv3, .slice Av4 L4.length cv4, .slice Ah lh.length ch, .slice Ar lr.length cr], ?_, ?_, hwr⟩
                    · rw [HE.out]; rfl
                    · have hcx : cutX x t = ⟨x.f0, M1, [shiftT t (-t.f1)], L3, L4, lh, lr⟩ := by rw [cutX, hM1.out, hLC.out, ← HLN.out, HE5.out, HLH.out, HLR.out]; rfl
                      rw [HO.out, hcx]
                      rw [← HML.out] at r1 hwr ⊢
                      exact K_finS (y := ⟨x.f0, M1, [shiftT t (-t.f1)], L3, L4, lh, lr⟩) hwr (R_fin r2 (Below.refl _ _) (by omega) _ _ _ _ _ _ _) (R_fin r1 (Below.refl _ _) (by omega) _ _ _ _ _ _ _) (R_fin r8 (Below.refl _ _) (by omega) _ _ _ _ _ _ _) (R_fin r3 (Below.refl _ _) (by omega) _ _ _ _ _ _ _) (R_fin r4 (Below.refl _ _) (by omega) _ _ _ _ _ _ _) (R_fin r5 (Below.refl _ _) (by omega) _ _ _ _ _ _ _) (R_fin r6 (Below.refl _ _) (by omega) _ _ _ _ _ _ _)
              · have HE5 : Aside0 (hasH x t = false) := ⟨by simp [hasH, hnh]⟩
                refine start_ (n := 24) (S := fun w' => w'.cell? ⟨w.heap.size, 5, none⟩ = some (.slice (some a5) x.f5.length c5) ∧ w'.cell? ⟨gT, 2, none⟩ = some (.int .i64 (t.f2 - t.f1)) ∧ w'.cell? ⟨w.heap.size, 6, none⟩ = some (.slice (some a6) x.f6.length c6)) (ds := []) #[false, false, false, false, false, false, false, false, false, false, false, false, false, false, false, false, false, false, false, false, false, false, false, false] (by kernel_rfl) rfl rfl ⟨(blk_cell X.c 5).trans rfl, (blk_cell X.t 2).trans rfl, (blk_cell X.c 6).trans rfl⟩ (fun hHeld => ?_)
                generalize W4.drew = U0 at X HS hbd hHeld ⊢
                refine pure_ (i := 0) (N := some 143) (v := ?_) (a' := ?_) #[true, false, false, false, false, false, false, false, false, false, false, false, false, false, false, false, false, false, false, false, false, false, false, false] rfl rfl (by kernel_rfl) (fun _ _ _ h => h) (Or.inl ⟨by rfl, ?_⟩) ?_ ?_
                rotate_left
                · intro w'
                  go_simp
                  with_reducible rfl
                rotate_left
                · simp only [Act.put, List.setIfInBounds_toArray, List.set_cons_zero, List.set_cons_succ]
                  rfl
                refine take_ (i := 1) (N := some 144) (v := ?_) (a' := ?_) #[true, true, false, false, false, false, false, false, false, false, false, false, false, false, false, false, false, false, false, false, false, false, false, false] rfl rfl (by kernel_rfl) (fun _ _ _ h => h) (Or.inl ⟨by rfl, ?_⟩) hHeld ?_ ?_
                rotate_left
                · rintro w' ⟨s0, s1, s2⟩
                  go_simp
                  with_reducible rfl
                rotate_left
                · simp only [Act.put, List.setIfInBounds_toArray, List.set_cons_zero, List.set_cons_succ]
                  rfl
                refine pure_ (i := 2) (N := some 145) (v := ?_) (a' := ?_) #[true, true, true, false, false, false, false, false, false, false, false, false, false, false, false, false, false, false, false, false, false, false, false, false] rfl rfl (by kernel_rfl) (fun _ _ _ h => h) (Or.inl ⟨by rfl, ?_⟩) ?_ ?_
                rotate_left
                · intro w'
                  go_simp
                  with_reducible rfl
                rotate_left
                · simp only [Act.put, List.setIfInBounds_toArray, List.set_cons_zero, List.set_cons_succ]
                  rfl
                refine pure_ (i := 3) (N := some 146) (v := ?_) (a' := ?_) #[true, true, true, true, false, false, false, false, false, false, false, false, false, false, false, false, false, false, false, false, false, false, false, false] rfl rfl (by kernel_rfl) (fun _ _ _ h => h) (Or.inl ⟨by rfl, ?_⟩) ?_ ?_
                rotate_left
                · intro w'
                  go_simp
                  with_reducible rfl
                rotate_left
                · simp only [Act.put, List.setIfInBounds_toArray, List.set_cons_zero, List.set_cons_succ]
                  rfl
                refine pure_ (i := 4) (N := some 147) (v := ?_) (a' := ?_) #[true, true, true, true, true, false, false, false, false, false, false, false, false, false, false, false, false, false, false, false, false, false, false, false] rfl rfl (by kernel_rfl) (fun _ _ _ h => h) (Or.inl ⟨by rfl, ?_⟩) ?_ ?_
                rotate_left
                · intro w'
                  go_simp
                  with_reducible rfl
                rotate_left
                · simp only [Act.put, List.setIfInBounds_toArray, List.set_cons_zero, List.set_cons_succ]
                  rfl
                refine pure_ (i := 5) (N := some 148) (v := ?_) (a' := ?_) #[true, true, true, true, true, true, false, false, false, false, false, false, false, false, false, false, false, false, false, false, false, false, false, false] rfl rfl (by kernel_rfl) (fun _ _ _ h => h) (Or.inl ⟨by rfl, ?_⟩) ?_ ?_
                rotate_left
                · intro w'
                  go_simp
                  with_reducible rfl
                rotate_left
                · simp only [Act.put, List.setIfInBounds_toArray, List.set_cons_zero, List.set_cons_succ]
                  rfl
                refine pure_ (i := 7) (N := some 150) (v := ?_) (a' := ?_) #[true, true, true, true, true, true, false, true, false, false, false, false, false, false, false, false, false, false, false, false, false, false, false, false] rfl rfl (by kernel_rfl) (fun _ _ _ h => h) (Or.inl ⟨by rfl, ?_⟩) ?_ ?_
                rotate_left
                · intro w'
                  go_simp
                  with_reducible rfl
                rotate_left
                · simp only [Act.put, List.setIfInBounds_toArray, List.set_cons_zero, List.set_cons_succ]
                  rfl
                refine pure_ (i := 8) (N := some 151) (v := ?_) (a' := ?_) #[true, true, true, true, true, true, false, true, true, false, false, false, false, false, false, false, false, false, false, false, false, false, false, false] rfl rfl (by kernel_rfl) (fun _ _ _ h => h) (Or.inl ⟨by rfl, ?_⟩) ?_ ?_
                rotate_left
                · intro w'
                  go_simp
                  with_reducible rfl
                rotate_left
                · simp only [Act.put, List.setIfInBounds_toArray, List.set_cons_zero, List.set_cons_succ]
                  rfl
                refine pure_ (i := 9) (N := some 152) (v := ?_) (a' := ?_) #[true, true, true, true, true, true, false, true, true, true, false, false, false, false, false, false, false, false, false, false, false, false, false, false] rfl rfl (by kernel_rfl) (fun _ _ _ h => h) (Or.inl ⟨by rfl, ?_⟩) ?_ ?_
                rotate_left
                · intro w'
                  go_simp
                  with_reducible rfl
                rotate_left
                · simp only [Act.put, List.setIfInBounds_toArray, List.set_cons_zero, List.set_cons_succ]
                  rfl
                refine pure_ (i := 13) (N := some 156) (v := ?_) (a' := ?_) #[true, true, true, true, true, true, false, true, true, true, false, false, false, true, false, false, false, false, false, false, false, false, false, false] rfl rfl (by kernel_rfl) (fun _ _ _ h => h) (Or.inl ⟨by rfl, ?_⟩) ?_ ?_
                rotate_left
                · intro w'
                  go_simp
                  with_reducible rfl
                rotate_left
                · simp only [Act.put, List.setIfInBounds_toArray, List.set_cons_zero, List.set_cons_succ]
                  rfl
                refine pure_ (i := 15) (N := some 158) (v := ?_) (a' := ?_) #[true, true, true, true, true, true, false, true, true, true, false, false, false, true, false, true, false, false, false, false, false, false, false, false] rfl rfl (by kernel_rfl) (fun _ _ _ h => h) (Or.inl ⟨by rfl, ?_⟩) ?_ ?_
                rotate_left
                · intro w'
                  go_simp
                  with_reducible rfl
                rotate_left
                · simp only [Act.put, List.setIfInBounds_toArray, List.set_cons_zero, List.set_cons_succ]
                  rfl
                refine pure_ (i := 16) (N := some 159) (v := ?_) (a' := ?_) #[true, true, true, true, true, true, false, true, true, true, false, false, false, true, false, true, true, false, false, false, false, false, false, false] rfl rfl (by kernel_rfl) (fun _ _ _ h => h) (Or.inl ⟨by rfl, ?_⟩) ?_ ?_
                rotate_left
                · intro w'
                  go_simp
                  with_reducible rfl
                rotate_left
                · simp only [Act.put, List.setIfInBounds_toArray, List.set_cons_zero, List.set_cons_succ]
                  rfl
                refine pure_ (i := 17) (N := some 160) (v := ?_) (a' := ?_) #[true, true, true, true, true, true, false, true, true, true, false, false, false, true, false, true, true, true, false, false, false, false, false, false] rfl rfl (by kernel_rfl) (fun _ _ _ h => h) (Or.inl ⟨by rfl, ?_⟩) ?_ ?_
                rotate_left
                · intro w'
                  go_simp
                  with_reducible rfl
                rotate_left
                · simp only [Act.put, List.setIfInBounds_toArray, List.set_cons_zero, List.set_cons_succ]
                  rfl
                refine take_ (i := 6) (N := some 149) (v := ?_) (a' := ?_) #[true, true, true, true, true, true, true, true, true, true, false, false, false, true, false, true, true, true, false, false, false, false, false, false] rfl rfl (by kernel_rfl) (fun _ _ _ h => h) (Or.inl ⟨by rfl, ?_⟩) hHeld ?_ ?_
                rotate_left
                · rintro w' ⟨s0, s1, s2⟩
                  go_simp
                  with_reducible rfl
                rotate_left
                · simp only [Act.put, List.setIfInBounds_toArray, List.set_cons_zero, List.set_cons_succ]
                  rfl
                refine take_ (i := 10) (N := some 153) (v := ?_) (a' := ?_) #[true, true, true, true, true, true, true, true, true, true, true, false, false, true, false, true, true, true, false, false, false, false, false, false] rfl rfl (by kernel_rfl) (fun _ _ _ h => h) (Or.inl ⟨by rfl, ?_⟩) hHeld ?_ ?_
                rotate_left
                · rintro w' ⟨s0, s1, s2⟩
                  go_simp
                  with_reducible rfl
                rotate_left
                · simp only [Act.put, List.setIfInBounds_toArray, List.set_cons_zero, List.set_cons_succ]
                  rfl
                refine pure_ (i := 11) (N := some 154) (v := ?_) (a' := ?_) #[true, true, true, true, true, true, true, true, true, true, true, true, false, true, false, true, true, true, false, false, false, false, false, false] rfl rfl (by kernel_rfl) (fun _ _ _ h => h) (Or.inl ⟨by rfl, ?_⟩) ?_ ?_
                rotate_left
                · intro w'
                  go_simp
                  with_reducible rfl
                rotate_left
                · simp only [Act.put, List.setIfInBounds_toArray, List.set_cons_zero, List.set_cons_succ, i64_w, nW3.out]
                  rfl
                refine pure_ (i := 12) (N := some 155) (v := ?_) (a' := ?_) #[true, true, true, true, true, true, true, true, true, true, true, true, true, true, false, true, true, true, false, false, false, false, false, false] rfl rfl (by kernel_rfl) (fun _ _ _ h => h) (Or.inl ⟨by rfl, ?_⟩) ?_ ?_
                rotate_left
                · intro w'
                  go_simp
                  with_reducible rfl
                rotate_left
                · simp only [Act.put, List.setIfInBounds_toArray, List.set_cons_zero, List.set_cons_succ]
                  rfl
                refine take_ (i := 14) (N := some 157) (v := ?_) (a' := ?_) #[true, true, true, true, true, true, true, true, true, true, true, true, true, true, true, true, true, true, false, false, false, false, false, false] rfl rfl (by kernel_rfl) (fun _ _ _ h => h) (Or.inl ⟨by rfl, ?_⟩) hHeld ?_ ?_
                rotate_left
                · rintro w' ⟨s0, s1, s2⟩
                  go_simp
                  with_reducible rfl
                rotate_left
                · simp only [Act.put, List.setIfInBounds_toArray, List.set_cons_zero, List.set_cons_succ]
                  rfl
                refine take_ (i := 18) (N := some 161) (v := ?_) (a' := ?_) #[true, true, true, true, true, true, true, true, true, true, true, true, true, true, true, true, true, true, true, false, false, false, false, false] rfl rfl (by kernel_rfl) (fun _ _ _ h => h) (Or.inl ⟨by rfl, ?_⟩) hHeld ?_ ?_
                rotate_left
                · rintro w' ⟨s0, s1, s2⟩
                  go_simp
                  with_reducible rfl
                rotate_left
                · simp only [Act.put, List.setIfInBounds_toArray, List.set_cons_zero, List.set_cons_succ]
                  rfl
                refine pure_ (i := 19) (N := some 162) (v := ?_) (a' := ?_) #[true, true, true, true, true, true, true, true, true, true, true, true, true, true, true, true, true, true, true, true, false, false, false, false] rfl rfl (by kernel_rfl) (fun _ _ _ h => h) (Or.inl ⟨by rfl, ?_⟩) ?_ ?_
                rotate_left
                · intro w'
                  go_simp
                  with_reducible rfl
                rotate_left
                · simp only [Act.put, List.setIfInBounds_toArray, List.set_cons_zero, List.set_cons_succ, i64_w, nW3.out]
                  rfl
                refine pure_ (i := 20) (N := some 163) (v := ?_) (a' := ?_) #[true, true, true, true, true, true, true, true, true, true, true, true, true, true, true, true, true, true, true, true, true, false, false, false] rfl rfl (by kernel_rfl) (fun _ _ _ h => h) (Or.inl ⟨by rfl, ?_⟩) ?_ ?_
                rotate_left
                · intro w'
                  go_simp
                  with_reducible rfl
                rotate_left
                · simp only [Act.put, List.setIfInBounds_toArray, List.set_cons_zero, List.set_cons_succ]
                  rfl
                refine one_ (i := 21) (N := some 164) #[true, true, true, true, true, true, true, true, true, true, true, true, true, true, true, true, true, true, true, true, true, true, false, false] rfl rfl (by kernel_rfl) (by decide) (fun K hK => ?_)
                refine goes_ Try.func58 (by kernel_rfl) rfl #[.slice (some (a5.add t.f1.toNat)) (t.f2.toNat - t.f1.toNat) (c5 - t.f1.toNat), .slice (some (a6.add t.f1.toNat)) (t.f2.toNat - t.f1.toNat) (c6 - t.f1.toNat)] (by rfl) rfl rfl (by simp only [List.map_toArray, List.map_cons, List.map_nil]; rfl) ?_
                have hcn := rBare_calls (some (a5.add t.f1.toNat)) (some (a6.add t.f1.toNat)) (c5 - t.f1.toNat) (c6 - t.f1.toNat) (mid x.f5 t.f1 t.f2) (mid x.f6 t.f1 t.f2) U0 (Kd.C_below HM5.out X.be) (Kd.C_below HM6.out X.be) (by rw [HK5.out, HK6.out]; exact Nat.le_refl _)
                rw [HK5.out, HK6.out, hnh] at hcn
                with_reducible refine (hcn).mono ?_
                rintro e u19 ⟨rfl, rfl⟩
                refine ⟨_, rfl, ?_⟩
                refine hK.out _ _ ⟨(blk_cell X.c 5).trans rfl, (blk_cell X.t 2).trans rfl, (blk_cell X.c 6).trans rfl⟩ (fun hHeld => ?_)
                clear hK K
                refine norm_ (a' := ?_) ?_ ?_
                rotate_left
                · show Act.put _ (some 164) _ = _
                  simp only [Act.put, List.setIfInBounds_toArray, List.set_cons_zero, List.set_cons_succ]
                  rfl
                refine pure_ (i := 22) (N := some 165) (v := ?_) (a' := ?_) #[true, true, true, true, true, true, true, true, true, true, true, true, true, true, true, true, true, true, true, true, true, true, true, false] rfl rfl (by kernel_rfl) (fun _ _ _ h => h) (Or.inl ⟨by rfl, ?_⟩) ?_ ?_
                rotate_left
                · intro w'
                  go_simp
                  with_reducible rfl
                rotate_left
                · simp only [Act.put, List.setIfInBounds_toArray, List.set_cons_zero, List.set_cons_succ]
                  rfl
                refine pure_ (i := 23) (N := some 166) (v := ?_) (a' := ?_) #[true, true, true, true, true, true, true, true, true, true, true, true, true, true, true, true, true, true, true, true, true, true, true, true] rfl rfl (by kernel_rfl) (fun _ _ _ h => h) (Or.inl ⟨by rfl, ?_⟩) ?_ ?_
                rotate_left
                · intro w'
                  go_simp
                  with_reducible rfl
                rotate_left
                · simp only [Act.put, List.setIfInBounds_toArray, List.set_cons_zero, List.set_cons_succ]
                  rfl
                refine done_ (by kernel_rfl) ?_
                have z0 := (blk_cell HS.d 0).trans rfl
                have z1 := (blk_cell HS.d 1).trans rfl
                have z2 := (blk_cell HS.d 2).trans rfl
                have z3 := (blk_cell HS.d 3).trans rfl
                have z4 := (blk_cell HS.d 4).trans rfl
                have z5 := (blk_cell HS.d 5).trans rfl
                have z6 := (blk_cell HS.d 6).trans rfl
                have zr0 := (blk_cell X.r 0).trans rfl
                have zr1 := (blk_cell X.r 1).trans rfl
                have zr2 := (blk_cell X.r 2).trans rfl
                have zr3 := (blk_cell X.r 3).trans rfl
                have zr4 := (blk_cell X.r 4).trans rfl
                have zr5 := (blk_cell X.r 5).trans rfl
                have zr6 := (blk_cell X.r 6).trans rfl
                have zf0 := blk_frozen X.r 0
                have zf1 := blk_frozen X.r 1
                have zf2 := blk_frozen X.r 2
                have zf3 := blk_frozen X.r 3
                have zf4 := blk_frozen X.r 4
                have zf5 := blk_frozen X.r 5
                have zf6 := blk_frozen X.r 6
                go_wp2
                clear z0 z1 z2 z3 z4 z5 z6 zr0 zr1 zr2 zr3 zr4 zr5 zr6 zf0 zf1 zf2 zf3 zf4 zf5 zf6
                have hzr := put7_blk X.r (.slice A2 x.f0.length cc2) (.slice A9 (t.f2.toNat - t.f1.toNat) cc9) (.slice (some ⟨g8, 0, none⟩) 1 1) (.slice Av3 L3.length cv3) (.slice Av4 L4.length cv4) (.slice none 0 0) (.slice none 0 0)
                have hwr := put7_below (g := w.heap.size + 1) X.be (by omega) (.slice A2 x.f0.length cc2) (.slice A9 (t.f2.toNat - t.f1.toNat) cc9) (.slice (some ⟨g8, 0, none⟩) 1 1) (.slice Av3 L3.length cv3) (.slice Av4 L4.length cv4) (.slice none 0 0) (.slice none 0 0)
                refine bodyPost_ret (results_ct rfl _ (put7 U0 (w.heap.size + 1) (.slice A2 x.f0.length cc2) (.slice A9 (t.f2.toNat - t.f1.toNat) cc9) (.slice (some ⟨g8, 0, none⟩) 1 1) (.slice Av3 L3.length cv3) (.slice Av4 L4.length cv4) (.slice none 0 0) (.slice none 0 0)) (w.heap.size + 1) 30 #[.slice A2 x.f0.length cc2, .slice A9 (t.f2.toNat - t.f1.toNat) cc9, .slice (some ⟨g8, 0, none⟩) 1 1, .slice Av3 L3.length cv3, .slice Av4 L4.length cv4, .slice none 0 0, .slice none 0 0] (0, 0) _ rfl hzr Try.underlying30 rfl (by kernel_rfl)) rfl ?_
                refine ⟨[.slice A2 x.f0.length cc2, .slice A9 (t.f2.toNat - t.f1.toNat) cc9, .slice (some ⟨g8, 0, none⟩) 1 1, .slice Av3 L3.length cv3, .slice Av4 L4.length cv4, .slice none 0 0, .slice none 0 0], ?_, ?_, hwr⟩
                · rw [HE.out]; rfl
                · have hcx : cutX x t = ⟨x.f0, M1, [shiftT t (-t.f1)], L3, L4, [], []⟩ := by rw [cutX, hM1.out, hLC.out, ← HLN.out, HE5.out]; rfl
                  rw [HO.out, hcx]
                  rw [← HML.out] at r1 hwr ⊢
                  exact K_finS (y := ⟨x.f0, M1, [shiftT t (-t.f1)], L3, L4, [], []⟩) hwr (R_fin r2 hbd (by omega) _ _ _ _ _ _ _) (R_fin r1 hbd (by omega) _ _ _ _ _ _ _) (R_fin r8 hbd (by omega) _ _ _ _ _ _ _) (R_fin r3 hbd (by omega) _ _ _ _ _ _ _) (R_fin r4 hbd (by omega) _ _ _ _ _ _ _) (Kd.R_nil (Kd.int .i64) 3 _ 0 (fun _ => True)) (Kd.R_nil Kd.string 9 _ 0 (fun _ => True))
end Go.Proofs.Ytkdgholmfnidkaa
