/- The reference's equality of corpora: what it returns. -/
import Derived.Test.YtkdgholmfnidkaaQ
namespace Go.Proofs.Ytkdgholmfnidkaa
open Go.RowKit Go.Proofs.YtkdgholmfnidkaaW.PrintWords Go.Proofs.YtkdgholmfnidkaaW.PrintLast Go.Proofs.YtkdgholmfnidkaaW.PrintMore
attribute [local go_sem high] eqA70 eqA62 eqA74
/-- Two boxes of corpora that lie still. -/
structure Bx2 (w : World) (c0 c1 : Array Value) (W : World) : Prop where
  be : Below w.heap.size w W
  b0 : W.heap[w.heap.size]? = some (.cells c0 30 (0, 0))
  b1 : W.heap[w.heap.size + 1]? = some (.cells c1 30 (0, 0))
section
variable {w W W2 : World} {c0 c1 : Array Value}
theorem Bx2.step (h : Bx2 w c0 c1 W) (k : Below W.heap.size W W2) : Bx2 w c0 c1 W2 := ⟨below_step h.be k, blk_below h.b0 k, blk_below h.b1 k⟩
theorem Bx2.alloc (h : Bx2 w c0 c1 W) (o : Obj) : Bx2 w c0 c1 (W.alloc o) := h.step (below_alloc (Below.refl _ _) o)
theorem Bx2.drewN (h : Bx2 w c0 c1 W) (n : Nat) : Bx2 w c0 c1 (W.drewN n) := h.step (pw_below_drewN (Below.refl _ _) n)
theorem Bx2.mk0 (w : World) (c0 c1 : Array Value) : Bx2 w c0 c1 ((w.alloc (.cells c0 30)).alloc (.cells c1 30)) :=
  ⟨below_alloc (below_alloc (Below.refl _ _) _) _, blk_alloc (blk_new w _) _, by have h := blk_new (w.alloc (.cells c0 30)) (.cells c1 30); rw [World.size_alloc] at h; exact h⟩
end
theorem and_step {E a b r : Bool} (h : E = ((a && b) && r)) (ha : a = true) : E = (b && r) := by rw [h, ha]; rfl
theorem and_stop {E a b r : Bool} (h : E = ((a && b) && r)) (ha : a = false) : E = false := by rw [h, ha]; rfl
set_option maxHeartbeats 32000000 in
set_option maxRecDepth 100000 in
theorem rEqual_calls (x y : S30) (cs cs' : List Value) (w : World) (hx : k30.K w x cs) (hy : k30.K w y cs') :
    Calls Try.prog 20 #[.agg cs.toArray, .agg cs'.toArray] w fun e w' => e = .returned (.bool (eq30 x y)) ∧ Below w.heap.size w w' := by
  have hu30 := Try.underlying30
  have hu39 := Try.underlying39
  have hu64 := Try.underlying64
  have hu62 := Try.underlying62
  have hu70 := Try.underlying70
  have hu74 := Try.underlying74
  obtain ⟨A0, c0, A1, c1, A2, c2, A3, c3, A4, c4, A5, c5, A6, c6, rfl, l0, g0, l1, g1, l2, g2, l3, g3, l4, g4, l5, g5, l6, g6⟩ := k30_open hx
  obtain ⟨A0', c0', A1', c1', A2', c2', A3', c3', A4', c4', A5', c5', A6', c6', rfl, l0', g0', l1', g1', l2', g2', l3', g3', l4', g4', l5', g5', l6', g6'⟩ := k30_open hy
  clear hx hy
  have G0 := Aside0.mk g0
  have G0' := Aside0.mk g0'
  have m0 := Kd.C_max g0
  have m0' := Kd.C_max g0'
  have G1 := Aside0.mk g1
  have G1' := Aside0.mk g1'
  have m1 := Kd.C_max g1
  have m1' := Kd.C_max g1'
  have G2 := Aside0.mk g2
  have G2' := Aside0.mk g2'
  have m2 := Kd.C_max g2
  have m2' := Kd.C_max g2'
  have G3 := Aside0.mk g3
  have G3' := Aside0.mk g3'
  have m3 := Kd.C_max g3
  have m3' := Kd.C_max g3'
  have G4 := Aside0.mk g4
  have G4' := Aside0.mk g4'
  have m4 := Kd.C_max g4
  have m4' := Kd.C_max g4'
  have G5 := Aside0.mk g5
  have G5' := Aside0.mk g5'
  have m5 := Kd.C_max g5
  have m5' := Kd.C_max g5'
  have G6 := Aside0.mk g6
  have G6' := Aside0.mk g6'
  have m6 := Kd.C_max g6
  have m6' := Kd.C_max g6'
  clear g0 g0' g1 g1' g2 g2' g3 g3' g4 g4' g5 g5' g6 g6'
  have HB := Bx2.mk0 w #[.slice A0 x.f0.length c0, .slice A1 x.f1.length c1, .slice A2 x.f2.length c2, .slice A3 x.f3.length c3, .slice A4 x.f4.length c4, .slice A5 x.f5.length c5, .slice A6 x.f6.length c6] #[.slice A0' y.f0.length c0', .slice A1' y.f1.length c1', .slice A2' y.f2.length c2', .slice A3' y.f3.length c3', .slice A4' y.f4.length c4', .slice A5' y.f5.length c5', .slice A6' y.f6.length c6']
  cases h0 : eqBy e62 x.f0 y.f0
  · go_enter Try.func20, Try.ntmps20
    go_wp2_with (go_at_call 50; refine (sameAttributes_calls A0 A0' c0 c0' x.f0 y.f0 _ (Kd.C_below G0.out HB.be) (Kd.C_below G0'.out HB.be)).mono ?_; rintro e w1 ⟨rfl, hb⟩; replace HB := HB.step hb; have z0 := blk_cell HB.b0; have z1 := blk_cell HB.b1; clear hb)
    go_ret
    exact ⟨ret_bool (by simp only [eq30, h0, Bool.false_and]), HB.be⟩
  by_cases n1 : x.f1.length = y.f1.length
  rotate_left
  · have q1 : ((x.f1.length : Int) != (y.f1.length : Int)) = true := by rw [bne_iff_ne]; omega
    have HE := Aside0.mk (eqBy_ne (f := (eqBy eS)) n1)
    clear n1
    go_enter Try.func20, Try.ntmps20
    go_wp2_with (go_at_call 50; refine (sameAttributes_calls A0 A0' c0 c0' x.f0 y.f0 _ (Kd.C_below G0.out HB.be) (Kd.C_below G0'.out HB.be)).mono ?_; rintro e w1 ⟨rfl, hb⟩; replace HB := HB.step hb; have z0 := blk_cell HB.b0; have z1 := blk_cell HB.b1; clear hb)
    go_ret
    exact ⟨ret_bool (by simp only [eq30, h0, HE.out, Bool.false_and, Bool.and_false]), HB.be⟩
  have q1 : ((x.f1.length : Int) != (y.f1.length : Int)) = false := by rw [bne_eq_false_iff_eq]; omega
  have N1 := Aside0.mk n1
  clear n1
  by_cases n2 : x.f2.length = y.f2.length
  rotate_left
  · have q2 : ((x.f2.length : Int) != (y.f2.length : Int)) = true := by rw [bne_iff_ne]; omega
    have HE := Aside0.mk (eqBy_ne (f := e64) n2)
    clear n2
    go_enter Try.func20, Try.ntmps20
    go_wp2_with (go_at_call 50; refine (sameAttributes_calls A0 A0' c0 c0' x.f0 y.f0 _ (Kd.C_below G0.out HB.be) (Kd.C_below G0'.out HB.be)).mono ?_; rintro e w1 ⟨rfl, hb⟩; replace HB := HB.step hb; have z0 := blk_cell HB.b0; have z1 := blk_cell HB.b1; clear hb)
    go_ret
    exact ⟨ret_bool (by simp only [eq30, h0, HE.out, Bool.false_and, Bool.and_false]), HB.be⟩
  have q2 : ((x.f2.length : Int) != (y.f2.length : Int)) = false := by rw [bne_eq_false_iff_eq]; omega
  have N2 := Aside0.mk n2
  clear n2
  by_cases n3 : x.f3.length = y.f3.length
  rotate_left
  · have q3 : ((x.f3.length : Int) != (y.f3.length : Int)) = true := by rw [bne_iff_ne]; omega
    have HE := Aside0.mk (eqBy_ne (f := e39) n3)
    clear n3
    go_enter Try.func20, Try.ntmps20
    go_wp2_with (go_at_call 50; refine (sameAttributes_calls A0 A0' c0 c0' x.f0 y.f0 _ (Kd.C_below G0.out HB.be) (Kd.C_below G0'.out HB.be)).mono ?_; rintro e w1 ⟨rfl, hb⟩; replace HB := HB.step hb; have z0 := blk_cell HB.b0; have z1 := blk_cell HB.b1; clear hb)
    go_ret
    exact ⟨ret_bool (by simp only [eq30, h0, HE.out, Bool.false_and, Bool.and_false]), HB.be⟩
  have q3 : ((x.f3.length : Int) != (y.f3.length : Int)) = false := by rw [bne_eq_false_iff_eq]; omega
  have N3 := Aside0.mk n3
  clear n3
  by_cases n4 : x.f4.length = y.f4.length
  rotate_left
  · have q4 : ((x.f4.length : Int) != (y.f4.length : Int)) = true := by rw [bne_iff_ne]; omega
    have HE := Aside0.mk (eqBy_ne (f := e74) n4)
    clear n4
    go_enter Try.func20, Try.ntmps20
    go_wp2_with (go_at_call 50; refine (sameAttributes_calls A0 A0' c0 c0' x.f0 y.f0 _ (Kd.C_below G0.out HB.be) (Kd.C_below G0'.out HB.be)).mono ?_; rintro e w1 ⟨rfl, hb⟩; replace HB := HB.step hb; have z0 := blk_cell HB.b0; have z1 := blk_cell HB.b1; clear hb)
    go_ret
    exact ⟨ret_bool (by simp only [eq30, h0, HE.out, Bool.false_and, Bool.and_false]), HB.be⟩
  have q4 : ((x.f4.length : Int) != (y.f4.length : Int)) = false := by rw [bne_eq_false_iff_eq]; omega
  have N4 := Aside0.mk n4
  clear n4
  by_cases n5 : x.f5.length = y.f5.length
  rotate_left
  · have q5 : ((x.f5.length : Int) != (y.f5.length : Int)) = true := by rw [bne_iff_ne]; omega
    have HE := Aside0.mk (eqBy_ne (f := eI) n5)
    clear n5
    go_enter Try.func20, Try.ntmps20
    go_wp2_with (go_at_call 50; refine (sameAttributes_calls A0 A0' c0 c0' x.f0 y.f0 _ (Kd.C_below G0.out HB.be) (Kd.C_below G0'.out HB.be)).mono ?_; rintro e w1 ⟨rfl, hb⟩; replace HB := HB.step hb; have z0 := blk_cell HB.b0; have z1 := blk_cell HB.b1; clear hb)
    go_ret
    exact ⟨ret_bool (by simp only [eq30, h0, HE.out, Bool.false_and, Bool.and_false]), HB.be⟩
  have q5 : ((x.f5.length : Int) != (y.f5.length : Int)) = false := by rw [bne_eq_false_iff_eq]; omega
  have N5 := Aside0.mk n5
  clear n5
  by_cases n6 : x.f6.length = y.f6.length
  rotate_left
  · have q6 : ((x.f6.length : Int) != (y.f6.length : Int)) = true := by rw [bne_iff_ne]; omega
    have HE := Aside0.mk (eqBy_ne (f := eS) n6)
    clear n6
    go_enter Try.func20, Try.ntmps20
    go_wp2_with (go_at_call 50; refine (sameAttributes_calls A0 A0' c0 c0' x.f0 y.f0 _ (Kd.C_below G0.out HB.be) (Kd.C_below G0'.out HB.be)).mono ?_; rintro e w1 ⟨rfl, hb⟩; replace HB := HB.step hb; have z0 := blk_cell HB.b0; have z1 := blk_cell HB.b1; clear hb)
    go_ret
    exact ⟨ret_bool (by simp only [eq30, h0, HE.out, Bool.and_false]), HB.be⟩
  have q6 : ((x.f6.length : Int) != (y.f6.length : Int)) = false := by rw [bne_eq_false_iff_eq]; omega
  have N6 := Aside0.mk n6
  clear n6
  have E0 : Aside0 (eq30 x y = (eqBy (eqBy eS) x.f1 y.f1 && (eqBy e64 x.f2 y.f2 && (eqBy e39 x.f3 y.f3 && (eqBy e74 x.f4 y.f4 && (eqBy eI x.f5 y.f5 && (eqBy eS x.f6 y.f6))))))) := ⟨by rw [eq30, h0, Bool.true_and]⟩
  go_enter Try.func20, Try.ntmps20
  go_wp2_with (go_at_call 50; refine (sameAttributes_calls A0 A0' c0 c0' x.f0 y.f0 _ (Kd.C_below G0.out HB.be) (Kd.C_below G0'.out HB.be)).mono ?_; rintro e w1 ⟨rfl, hb⟩; replace HB := HB.step hb; have z0 := blk_cell HB.b0; have z1 := blk_cell HB.b1; clear hb)
  clear h0 z0 z1
  have z1 := (blk_cell HB.b0 1).trans rfl
  go_wp2
  go_loopw [79] (fun i wr => ∃ k : Nat, k ≤ x.f1.length ∧ i = .int .i64 k ∧ Aside0 (eq30 x y = (eqBy (eqBy eS) (x.f1.drop k) (y.f1.drop k) && (eqBy e64 x.f2 y.f2 && (eqBy e39 x.f3 y.f3 && (eqBy e74 x.f4 y.f4 && (eqBy eI x.f5 y.f5 && (eqBy eS x.f6 y.f6))))))) ∧ Bx2 w #[.slice A0 x.f0.length c0, .slice A1 x.f1.length c1, .slice A2 x.f2.length c2, .slice A3 x.f3.length c3, .slice A4 x.f4.length c4, .slice A5 x.f5.length c5, .slice A6 x.f6.length c6] #[.slice A0' y.f0.length c0', .slice A1' y.f1.length c1', .slice A2' y.f2.length c2', .slice A3' y.f3.length c3', .slice A4' y.f4.length c4', .slice A5' y.f5.length c5', .slice A6' y.f6.length c6'] wr) (fun i _ => x.f1.length - (intOf i).toNat)
  case atStart => exact ⟨0, Nat.zero_le _, rfl, ⟨E0.out⟩, HB⟩
  case round =>
    clear z1
    obtain ⟨k, hk, rfl, HN, HB⟩ := hrel
    have z1 := (blk_cell HB.b0 1).trans rfl
    have z1' := (blk_cell HB.b1 1).trans rfl
    have hzs : w.heap.size + 1 < wr.heap.size := blk_lt HB.b1
    by_cases hlt : k < x.f1.length
    · have hlt' : k < y.f1.length := by have := N1.out; omega
      obtain ⟨ad, a, Aa, ca, rfl, hd, -, P0, la, ga⟩ := elL G1 (bel_refl w) k hlt
      obtain ⟨ad', b, Ab, cb, rfl, hd', -, P0', lb, gb⟩ := elL G1' (bel_refl w) k hlt'
      have p0 := pw_cell_below HB.be P0
      have p0' := pw_cell_below HB.be P0'
      have HS : Aside0 (eq30 x y = (((eqBy eS) a b && eqBy (eqBy eS) (x.f1.drop (k + 1)) (y.f1.drop (k + 1))) && (eqBy e64 x.f2 y.f2 && (eqBy e39 x.f3 y.f3 && (eqBy e74 x.f4 y.f4 && (eqBy eI x.f5 y.f5 && (eqBy eS x.f6 y.f6))))))) := ⟨by rw [HN.out, hd.out, hd'.out, eqBy]⟩
      clear HN hd hd'
      have ma := Kd.C_max ga.out
      have mb := Kd.C_max gb.out
      by_cases hn : a.length = b.length
      rotate_left
      · have hq : eqBy eS a b = false := eqBy_ne hn
        have hqn : ((a.length : Int) != (b.length : Int)) = true := by rw [bne_iff_ne]; omega
        clear hn
        go_wp2
        go_quiet (fail)
        go_wp2
        go_ret
        exact ⟨ret_bool (and_stop HS.out hq).symm, below_step HB.be (pw_below_drewN (Below.refl _ _) _)⟩
      have hqn : ((a.length : Int) != (b.length : Int)) = false := by rw [bne_eq_false_iff_eq]; omega
      have HNN := Aside0.mk hn
      clear hn
      go_wp2
      go_quiet (fail)
      go_wp2
      go_loopw [101] (fun i wr2 => ∃ j : Nat, j ≤ a.length ∧ i = .int .i64 j ∧ Aside0 (eqBy eS a b = eqBy eS (a.drop j) (b.drop j)) ∧ Bx2 w #[.slice A0 x.f0.length c0, .slice (some ad) x.f1.length c1, .slice A2 x.f2.length c2, .slice A3 x.f3.length c3, .slice A4 x.f4.length c4, .slice A5 x.f5.length c5, .slice A6 x.f6.length c6] #[.slice A0' y.f0.length c0', .slice (some ad') y.f1.length c1', .slice A2' y.f2.length c2', .slice A3' y.f3.length c3', .slice A4' y.f4.length c4', .slice A5' y.f5.length c5', .slice A6' y.f6.length c6'] wr2) (fun i _ => a.length - (intOf i).toNat)
      case atStart => exact ⟨0, Nat.zero_le _, rfl, ⟨rfl⟩, HB.drewN _⟩
      case round =>
        clear z1 z1' p0 p0' HB
        obtain ⟨j, hj, rfl, HNI, HB⟩ := hrel
        have z1 := (blk_cell HB.b0 1).trans rfl
        have z1' := (blk_cell HB.b1 1).trans rfl
        have p0 := pw_cell_below HB.be P0
        have p0' := pw_cell_below HB.be P0'
        by_cases hlt2 : j < a.length
        · have hlt2' : j < b.length := by have := HNN.out; omega
          obtain ⟨ae, s, rfl, hds, -, q0⟩ := elS ga ⟨HB.be⟩ j hlt2
          obtain ⟨be, u, rfl, hdu, -, q0'⟩ := elS gb ⟨HB.be⟩ j hlt2'
          have HSI : Aside0 (eqBy eS a b = (eS s u && eqBy eS (a.drop (j + 1)) (b.drop (j + 1)))) := ⟨by rw [HNI.out, hds.out, hdu.out, eqBy]⟩
          clear HNI hds hdu
          cases hq1 : eS s u
          · have hy := hq1
            rw [eS] at hy
            have hq : eqBy eS a b = false := by rw [HSI.out, hq1]; rfl
            go_wp2
            go_quiet (fail)
            go_wp2
            go_ret
            exact ⟨ret_bool (and_stop HS.out hq).symm, below_step HB.be (pw_below_drewN (Below.refl _ _) _)⟩
          · have hy := hq1
            rw [eS] at hy
            go_wp2
            go_quiet (fail)
            go_wp2
            go_roundw
            case rel => exact ⟨j + 1, by omega, by go_num, ⟨by rw [HSI.out, hq1]; rfl⟩, HB.drewN _⟩
            case measure => simp [intOf]; omega
        · have hq : eqBy eS a b = true := by rw [HNI.out, List.drop_eq_nil_of_le (by omega), List.drop_eq_nil_of_le (by have := HNN.out; omega)]; rfl
          go_wp2
          go_roundw
          case rel => exact ⟨k + 1, by omega, by go_num, ⟨and_step HS.out hq⟩, HB⟩
          case measure => simp [intOf]; omega
    · obtain rfl : k = x.f1.length := by omega
      have E1 : Aside0 (eq30 x y = (eqBy e64 x.f2 y.f2 && (eqBy e39 x.f3 y.f3 && (eqBy e74 x.f4 y.f4 && (eqBy eI x.f5 y.f5 && (eqBy eS x.f6 y.f6)))))) := ⟨by have h := HN.out; rwa [List.drop_eq_nil_of_le (Nat.le_refl _), List.drop_eq_nil_of_le (Nat.le_of_eq N1.out.symm), eqBy, Bool.true_and] at h⟩
      clear z1 z1' HN
      have z2 := (blk_cell HB.b0 2).trans rfl
      go_wp2
      go_loopw [126] (fun i wr => ∃ k : Nat, k ≤ x.f2.length ∧ i = .int .i64 k ∧ Aside0 (eq30 x y = (eqBy e64 (x.f2.drop k) (y.f2.drop k) && (eqBy e39 x.f3 y.f3 && (eqBy e74 x.f4 y.f4 && (eqBy eI x.f5 y.f5 && (eqBy eS x.f6 y.f6)))))) ∧ Bx2 w #[.slice A0 x.f0.length c0, .slice A1 x.f1.length c1, .slice A2 x.f2.length c2, .slice A3 x.f3.length c3, .slice A4 x.f4.length c4, .slice A5 x.f5.length c5, .slice A6 x.f6.length c6] #[.slice A0' y.f0.length c0', .slice A1' y.f1.length c1', .slice A2' y.f2.length c2', .slice A3' y.f3.length c3', .slice A4' y.f4.length c4', .slice A5' y.f5.length c5', .slice A6' y.f6.length c6'] wr) (fun i _ => x.f2.length - (intOf i).toNat)
      case atStart => exact ⟨0, Nat.zero_le _, rfl, ⟨E1.out⟩, HB⟩
      case round =>
        clear z2
        obtain ⟨k, hk, rfl, HN, HB⟩ := hrel
        have z2 := (blk_cell HB.b0 2).trans rfl
        have z2' := (blk_cell HB.b1 2).trans rfl
        have hzs : w.heap.size + 1 < wr.heap.size := blk_lt HB.b1
        by_cases hlt : k < x.f2.length
        · have hlt' : k < y.f2.length := by have := N2.out; omega
          obtain ⟨ad, a, Aa, ca, rfl, hd, -, p0, p1, p2, p3, la, ga⟩ := el64 G2 ⟨HB.be⟩ k hlt
          obtain ⟨ad', b, Ab, cb, rfl, hd', -, p0', p1', p2', p3', lb, gb⟩ := el64 G2' ⟨HB.be⟩ k hlt'
          have HS : Aside0 (eq30 x y = ((e64 a b && eqBy e64 (x.f2.drop (k + 1)) (y.f2.drop (k + 1))) && (eqBy e39 x.f3 y.f3 && (eqBy e74 x.f4 y.f4 && (eqBy eI x.f5 y.f5 && (eqBy eS x.f6 y.f6)))))) := ⟨by rw [HN.out, hd.out, hd'.out, eqBy]⟩
          clear HN hd hd'
          have hw1 : Below w.heap.size w ((wr.alloc (.cells #[.string a.f0, .int .i64 a.f1, .int .i64 a.f2, .slice Aa a.f3.length ca] 64)).alloc (.cells #[.string b.f0, .int .i64 b.f1, .int .i64 b.f2, .slice Ab b.f3.length cb] 64)) := below_alloc (below_alloc HB.be _) _
          have HW := (HB.alloc (.cells #[.string a.f0, .int .i64 a.f1, .int .i64 a.f2, .slice Aa a.f3.length ca] 64)).alloc (.cells #[.string b.f0, .int .i64 b.f1, .int .i64 b.f2, .slice Ab b.f3.length cb] 64)
          have HA := below_alloc (Below.refl wr.heap.size wr) (.cells #[.string a.f0, .int .i64 a.f1, .int .i64 a.f2, .slice Aa a.f3.length ca] 64)
          have s0 := pw_cell_below HA p0'
          have s1 := pw_cell_below HA p1'
          have s2 := pw_cell_below HA p2'
          have s3 := pw_cell_below HA p3'
          cases r0 : a.f0.toList == b.f0.toList
          · have hq : e64 a b = false := by rw [e64, r0]; rfl
            go_wp2
            go_ret
            exact ⟨ret_bool (and_stop HS.out hq).symm, hw1⟩
          cases r1 : a.f1 == b.f1
          · have hq : e64 a b = false := by rw [e64, r0, r1]; rfl
            have rn1 : (a.f1 != b.f1) = true := by rw [bne, r1]; rfl
            go_wp2
            go_ret
            exact ⟨ret_bool (and_stop HS.out hq).symm, hw1⟩
          have rn1 : (a.f1 != b.f1) = false := by rw [bne, r1]; rfl
          cases r2 : a.f2 == b.f2
          · have hq : e64 a b = false := by rw [e64, r0, r1, r2]; rfl
            have rn2 : (a.f2 != b.f2) = true := by rw [bne, r2]; rfl
            go_wp2
            go_ret
            exact ⟨ret_bool (and_stop HS.out hq).symm, hw1⟩
          have rn2 : (a.f2 != b.f2) = false := by rw [bne, r2]; rfl
          have hqe : Aside0 (e64 a b = eqBy e70 a.f3 b.f3) := ⟨by rw [e64, r0, r1, r2]; rfl⟩
          cases r3 : eqBy e70 a.f3 b.f3
          · have hq : e64 a b = false := hqe.out.trans r3
            go_wp2_with (go_at_call 51; refine (samePairs_calls Aa Ab ca cb a.f3 b.f3 _ (Kd.C_below ga.out hw1) (Kd.C_below gb.out hw1)).mono ?_; rintro e w5 ⟨rfl, hb⟩)
            go_ret
            exact ⟨ret_bool (and_stop HS.out hq).symm, below_step hw1 hb⟩
          · have hq : e64 a b = true := hqe.out.trans r3
            go_wp2_with (go_at_call 51; refine (samePairs_calls Aa Ab ca cb a.f3 b.f3 _ (Kd.C_below ga.out hw1) (Kd.C_below gb.out hw1)).mono ?_; rintro e w5 ⟨rfl, hb⟩)
            go_roundw
            case rel => exact ⟨k + 1, by omega, by go_num, ⟨and_step HS.out hq⟩, HW.step hb⟩
            case measure => simp [intOf]; omega
        · obtain rfl : k = x.f2.length := by omega
          have E2 : Aside0 (eq30 x y = (eqBy e39 x.f3 y.f3 && (eqBy e74 x.f4 y.f4 && (eqBy eI x.f5 y.f5 && (eqBy eS x.f6 y.f6))))) := ⟨by have h := HN.out; rwa [List.drop_eq_nil_of_le (Nat.le_refl _), List.drop_eq_nil_of_le (Nat.le_of_eq N2.out.symm), eqBy, Bool.true_and] at h⟩
          clear z2 z2' HN
          have z3 := (blk_cell HB.b0 3).trans rfl
          go_wp2
          go_loopw [167] (fun i wr => ∃ k : Nat, k ≤ x.f3.length ∧ i = .int .i64 k ∧ Aside0 (eq30 x y = (eqBy e39 (x.f3.drop k) (y.f3.drop k) && (eqBy e74 x.f4 y.f4 && (eqBy eI x.f5 y.f5 && (eqBy eS x.f6 y.f6))))) ∧ Bx2 w #[.slice A0 x.f0.length c0, .slice A1 x.f1.length c1, .slice A2 x.f2.length c2, .slice A3 x.f3.length c3, .slice A4 x.f4.length c4, .slice A5 x.f5.length c5, .slice A6 x.f6.length c6] #[.slice A0' y.f0.length c0', .slice A1' y.f1.length c1', .slice A2' y.f2.length c2', .slice A3' y.f3.length c3', .slice A4' y.f4.length c4', .slice A5' y.f5.length c5', .slice A6' y.f6.length c6'] wr) (fun i _ => x.f3.length - (intOf i).toNat)
          case atStart => exact ⟨0, Nat.zero_le _, rfl, ⟨E2.out⟩, HB⟩
          case round =>
            clear z3
            obtain ⟨k, hk, rfl, HN, HB⟩ := hrel
            have z3 := (blk_cell HB.b0 3).trans rfl
            have z3' := (blk_cell HB.b1 3).trans rfl
            have hzs : w.heap.size + 1 < wr.heap.size := blk_lt HB.b1
            by_cases hlt : k < x.f3.length
            · have hlt' : k < y.f3.length := by have := N3.out; omega
              obtain ⟨ad, a, Aa, ca, rfl, hd, -, p0, p1, p2, p3, la, ga⟩ := el39 G3 ⟨HB.be⟩ k hlt
              obtain ⟨ad', b, Ab, cb, rfl, hd', -, p0', p1', p2', p3', lb, gb⟩ := el39 G3' ⟨HB.be⟩ k hlt'
              have HS : Aside0 (eq30 x y = ((e39 a b && eqBy e39 (x.f3.drop (k + 1)) (y.f3.drop (k + 1))) && (eqBy e74 x.f4 y.f4 && (eqBy eI x.f5 y.f5 && (eqBy eS x.f6 y.f6))))) := ⟨by rw [HN.out, hd.out, hd'.out, eqBy]⟩
              clear HN hd hd'
              have hw1 : Below w.heap.size w ((wr.alloc (.cells #[.string a.f0, .int .i64 a.f1, .int .i64 a.f2, .slice Aa a.f3.length ca] 39)).alloc (.cells #[.string b.f0, .int .i64 b.f1, .int .i64 b.f2, .slice Ab b.f3.length cb] 39)) := below_alloc (below_alloc HB.be _) _
              have HW := (HB.alloc (.cells #[.string a.f0, .int .i64 a.f1, .int .i64 a.f2, .slice Aa a.f3.length ca] 39)).alloc (.cells #[.string b.f0, .int .i64 b.f1, .int .i64 b.f2, .slice Ab b.f3.length cb] 39)
              have HA := below_alloc (Below.refl wr.heap.size wr) (.cells #[.string a.f0, .int .i64 a.f1, .int .i64 a.f2, .slice Aa a.f3.length ca] 39)
              have s0 := pw_cell_below HA p0'
              have s1 := pw_cell_below HA p1'
              have s2 := pw_cell_below HA p2'
              have s3 := pw_cell_below HA p3'
              cases r0 : a.f0.toList == b.f0.toList
              · have hq : e39 a b = false := by rw [e39, r0]; rfl
                go_wp2
                go_ret
                exact ⟨ret_bool (and_stop HS.out hq).symm, hw1⟩
              cases r1 : a.f1 == b.f1
              · have hq : e39 a b = false := by rw [e39, r0, r1]; rfl
                have rn1 : (a.f1 != b.f1) = true := by rw [bne, r1]; rfl
                go_wp2
                go_ret
                exact ⟨ret_bool (and_stop HS.out hq).symm, hw1⟩
              have rn1 : (a.f1 != b.f1) = false := by rw [bne, r1]; rfl
              cases r2 : a.f2 == b.f2
              · have hq : e39 a b = false := by rw [e39, r0, r1, r2]; rfl
                have rn2 : (a.f2 != b.f2) = true := by rw [bne, r2]; rfl
                go_wp2
                go_ret
                exact ⟨ret_bool (and_stop HS.out hq).symm, hw1⟩
              have rn2 : (a.f2 != b.f2) = false := by rw [bne, r2]; rfl
              have hqe : Aside0 (e39 a b = eqBy e70 a.f3 b.f3) := ⟨by rw [e39, r0, r1, r2]; rfl⟩
              cases r3 : eqBy e70 a.f3 b.f3
              · have hq : e39 a b = false := hqe.out.trans r3
                go_wp2_with (go_at_call 51; refine (samePairs_calls Aa Ab ca cb a.f3 b.f3 _ (Kd.C_below ga.out hw1) (Kd.C_below gb.out hw1)).mono ?_; rintro e w5 ⟨rfl, hb⟩)
                go_ret
                exact ⟨ret_bool (and_stop HS.out hq).symm, below_step hw1 hb⟩
              · have hq : e39 a b = true := hqe.out.trans r3
                go_wp2_with (go_at_call 51; refine (samePairs_calls Aa Ab ca cb a.f3 b.f3 _ (Kd.C_below ga.out hw1) (Kd.C_below gb.out hw1)).mono ?_; rintro e w5 ⟨rfl, hb⟩)
                go_roundw
                case rel => exact ⟨k + 1, by omega, by go_num, ⟨and_step HS.out hq⟩, HW.step hb⟩
                case measure => simp [intOf]; omega
            · obtain rfl : k = x.f3.length := by omega
              have E3 : Aside0 (eq30 x y = (eqBy e74 x.f4 y.f4 && (eqBy eI x.f5 y.f5 && (eqBy eS x.f6 y.f6)))) := ⟨by have h := HN.out; rwa [List.drop_eq_nil_of_le (Nat.le_refl _), List.drop_eq_nil_of_le (Nat.le_of_eq N3.out.symm), eqBy, Bool.true_and] at h⟩
              clear z3 z3' HN
              have z4 := (blk_cell HB.b0 4).trans rfl
              go_wp2
              go_loopw [208] (fun i wr => ∃ k : Nat, k ≤ x.f4.length ∧ i = .int .i64 k ∧ Aside0 (eq30 x y = (eqBy e74 (x.f4.drop k) (y.f4.drop k) && (eqBy eI x.f5 y.f5 && (eqBy eS x.f6 y.f6)))) ∧ Bx2 w #[.slice A0 x.f0.length c0, .slice A1 x.f1.length c1, .slice A2 x.f2.length c2, .slice A3 x.f3.length c3, .slice A4 x.f4.length c4, .slice A5 x.f5.length c5, .slice A6 x.f6.length c6] #[.slice A0' y.f0.length c0', .slice A1' y.f1.length c1', .slice A2' y.f2.length c2', .slice A3' y.f3.length c3', .slice A4' y.f4.length c4', .slice A5' y.f5.length c5', .slice A6' y.f6.length c6'] wr) (fun i _ => x.f4.length - (intOf i).toNat)
              case atStart => exact ⟨0, Nat.zero_le _, rfl, ⟨E3.out⟩, HB⟩
              case round =>
                clear z4
                obtain ⟨k, hk, rfl, HN, HB⟩ := hrel
                have z4 := (blk_cell HB.b0 4).trans rfl
                have z4' := (blk_cell HB.b1 4).trans rfl
                have hzs : w.heap.size + 1 < wr.heap.size := blk_lt HB.b1
                by_cases hlt : k < x.f4.length
                · have hlt' : k < y.f4.length := by have := N4.out; omega
                  obtain ⟨ad, a, rfl, hd, -, p0, p1, p2, p3⟩ := el74 G4 ⟨HB.be⟩ k hlt
                  obtain ⟨ad', b, rfl, hd', -, p0', p1', p2', p3'⟩ := el74 G4' ⟨HB.be⟩ k hlt'
                  have HS : Aside0 (eq30 x y = ((e74 a b && eqBy e74 (x.f4.drop (k + 1)) (y.f4.drop (k + 1))) && (eqBy eI x.f5 y.f5 && (eqBy eS x.f6 y.f6)))) := ⟨by rw [HN.out, hd.out, hd'.out, eqBy]⟩
                  clear HN hd hd'
                  cases hq : e74 a b
                  · have hy := hq
                    rw [e74] at hy
                    go_wp2
                    go_quiet (fail)
                    go_wp2
                    go_ret
                    exact ⟨ret_bool (and_stop HS.out hq).symm, below_step HB.be (pw_below_drewN (Below.refl _ _) _)⟩
                  · have hy := hq
                    rw [e74] at hy
                    go_wp2
                    go_quiet (fail)
                    go_wp2
                    go_roundw
                    case rel => exact ⟨k + 1, by omega, by go_num, ⟨and_step HS.out hq⟩, HB.drewN _⟩
                    case measure => simp [intOf]; omega
                · obtain rfl : k = x.f4.length := by omega
                  have E4 : Aside0 (eq30 x y = (eqBy eI x.f5 y.f5 && (eqBy eS x.f6 y.f6))) := ⟨by have h := HN.out; rwa [List.drop_eq_nil_of_le (Nat.le_refl _), List.drop_eq_nil_of_le (Nat.le_of_eq N4.out.symm), eqBy, Bool.true_and] at h⟩
                  clear z4 z4' HN
                  have z5 := (blk_cell HB.b0 5).trans rfl
                  go_wp2
                  go_loopw [226] (fun i wr => ∃ k : Nat, k ≤ x.f5.length ∧ i = .int .i64 k ∧ Aside0 (eq30 x y = (eqBy eI (x.f5.drop k) (y.f5.drop k) && (eqBy eS x.f6 y.f6))) ∧ Bx2 w #[.slice A0 x.f0.length c0, .slice A1 x.f1.length c1, .slice A2 x.f2.length c2, .slice A3 x.f3.length c3, .slice A4 x.f4.length c4, .slice A5 x.f5.length c5, .slice A6 x.f6.length c6] #[.slice A0' y.f0.length c0', .slice A1' y.f1.length c1', .slice A2' y.f2.length c2', .slice A3' y.f3.length c3', .slice A4' y.f4.length c4', .slice A5' y.f5.length c5', .slice A6' y.f6.length c6'] wr) (fun i _ => x.f5.length - (intOf i).toNat)
                  case atStart => exact ⟨0, Nat.zero_le _, rfl, ⟨E4.out⟩, HB⟩
                  case round =>
                    clear z5
                    obtain ⟨k, hk, rfl, HN, HB⟩ := hrel
                    have z5 := (blk_cell HB.b0 5).trans rfl
                    have z5' := (blk_cell HB.b1 5).trans rfl
                    have hzs : w.heap.size + 1 < wr.heap.size := blk_lt HB.b1
                    by_cases hlt : k < x.f5.length
                    · have hlt' : k < y.f5.length := by have := N5.out; omega
                      obtain ⟨ad, a, rfl, hd, -, p0⟩ := elI G5 ⟨HB.be⟩ k hlt
                      obtain ⟨ad', b, rfl, hd', -, p0'⟩ := elI G5' ⟨HB.be⟩ k hlt'
                      have HS : Aside0 (eq30 x y = ((eI a b && eqBy eI (x.f5.drop (k + 1)) (y.f5.drop (k + 1))) && (eqBy eS x.f6 y.f6))) := ⟨by rw [HN.out, hd.out, hd'.out, eqBy]⟩
                      clear HN hd hd'
                      cases hq : eI a b
                      · have hy := hq
                        rw [eI] at hy
                        go_wp2
                        go_quiet (fail)
                        go_wp2
                        go_ret
                        exact ⟨ret_bool (and_stop HS.out hq).symm, below_step HB.be (pw_below_drewN (Below.refl _ _) _)⟩
                      · have hy := hq
                        rw [eI] at hy
                        go_wp2
                        go_quiet (fail)
                        go_wp2
                        go_roundw
                        case rel => exact ⟨k + 1, by omega, by go_num, ⟨and_step HS.out hq⟩, HB.drewN _⟩
                        case measure => simp [intOf]; omega
                    · obtain rfl : k = x.f5.length := by omega
                      have E5 : Aside0 (eq30 x y = (eqBy eS x.f6 y.f6)) := ⟨by have h := HN.out; rwa [List.drop_eq_nil_of_le (Nat.le_refl _), List.drop_eq_nil_of_le (Nat.le_of_eq N5.out.symm), eqBy, Bool.true_and] at h⟩
                      clear z5 z5' HN
                      have z6 := (blk_cell HB.b0 6).trans rfl
                      go_wp2
                      go_loopw [244] (fun i wr => ∃ k : Nat, k ≤ x.f6.length ∧ i = .int .i64 k ∧ Aside0 (eq30 x y = (eqBy eS (x.f6.drop k) (y.f6.drop k) && (true))) ∧ Bx2 w #[.slice A0 x.f0.length c0, .slice A1 x.f1.length c1, .slice A2 x.f2.length c2, .slice A3 x.f3.length c3, .slice A4 x.f4.length c4, .slice A5 x.f5.length c5, .slice A6 x.f6.length c6] #[.slice A0' y.f0.length c0', .slice A1' y.f1.length c1', .slice A2' y.f2.length c2', .slice A3' y.f3.length c3', .slice A4' y.f4.length c4', .slice A5' y.f5.length c5', .slice A6' y.f6.length c6'] wr) (fun i _ => x.f6.length - (intOf i).toNat)
                      case atStart => exact ⟨0, Nat.zero_le _, rfl, ⟨E5.out.trans (Bool.and_true _).symm⟩, HB⟩
                      case round =>
                        clear z6
                        obtain ⟨k, hk, rfl, HN, HB⟩ := hrel
                        have z6 := (blk_cell HB.b0 6).trans rfl
                        have z6' := (blk_cell HB.b1 6).trans rfl
                        have hzs : w.heap.size + 1 < wr.heap.size := blk_lt HB.b1
                        by_cases hlt : k < x.f6.length
                        · have hlt' : k < y.f6.length := by have := N6.out; omega
                          obtain ⟨ad, a, rfl, hd, -, p0⟩ := elS G6 ⟨HB.be⟩ k hlt
                          obtain ⟨ad', b, rfl, hd', -, p0'⟩ := elS G6' ⟨HB.be⟩ k hlt'
                          have HS : Aside0 (eq30 x y = ((eS a b && eqBy eS (x.f6.drop (k + 1)) (y.f6.drop (k + 1))) && (true))) := ⟨by rw [HN.out, hd.out, hd'.out, eqBy]⟩
                          clear HN hd hd'
                          cases hq : eS a b
                          · have hy := hq
                            rw [eS] at hy
                            go_wp2
                            go_quiet (fail)
                            go_wp2
                            go_ret
                            exact ⟨ret_bool (and_stop HS.out hq).symm, below_step HB.be (pw_below_drewN (Below.refl _ _) _)⟩
                          · have hy := hq
                            rw [eS] at hy
                            go_wp2
                            go_quiet (fail)
                            go_wp2
                            go_roundw
                            case rel => exact ⟨k + 1, by omega, by go_num, ⟨and_step HS.out hq⟩, HB.drewN _⟩
                            case measure => simp [intOf]; omega
                        · obtain rfl : k = x.f6.length := by omega
                          have E6 : Aside0 (eq30 x y = (true)) := ⟨by have h := HN.out; rwa [List.drop_eq_nil_of_le (Nat.le_refl _), List.drop_eq_nil_of_le (Nat.le_of_eq N6.out.symm), eqBy, Bool.true_and] at h⟩
                          clear z6 z6' HN
                          go_wp2
                          go_ret
                          exact ⟨ret_bool E6.out.symm, HB.be⟩
end Go.Proofs.Ytkdgholmfnidkaa
