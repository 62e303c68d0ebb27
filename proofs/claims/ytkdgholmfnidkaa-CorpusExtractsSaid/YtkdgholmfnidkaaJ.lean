/- The weight of corpora, and whether they are heavy: that each call comes back with a number or a truth value. -/
import Derived.Test.YtkdgholmfnidkaaI
namespace Go.Proofs.Ytkdgholmfnidkaa
open Go.RowKit Go.Proofs.YtkdgholmfnidkaaW.PrintWords Go.Proofs.YtkdgholmfnidkaaW.PrintLast Go.Proofs.YtkdgholmfnidkaaW.PrintMore

set_option maxHeartbeats 2000000 in
set_option maxRecDepth 100000 in
theorem valid_calls (x : S30) (cs : List Value) (w : World) (hx : k30.K w x cs) (hok : okC x) :
    Calls Try.prog 52 #[.agg cs.toArray] w fun e w' => e = .returned (.bool ((vErr x).2.2 == 0)) ∧ Below w.heap.size w w' := by
  have hb0 : Below w.heap.size w (w.alloc (.cells cs.toArray 30)) := below_alloc (Below.refl _ _) _
  have hc := Validate_calls x cs (w.alloc (.cells cs.toArray 30)) (k30.K_below hb0 hx) hok
  obtain ⟨A0, c0, A1, c1, A2, c2, A3, c3, A4, c4, A5, c5, A6, c6, rfl, -⟩ := k30_open hx
  clear hx
  have hu30 := Try.underlying30
  go_enter Try.func52, Try.ntmps52
  go_wp2_with (go_at_call 15; refine hc.mono ?_; rintro e w2 ⟨rfl, hb⟩)
  go_ret
  exact ⟨rfl, below_step hb0 hb⟩

set_option maxHeartbeats 2000000 in
set_option maxRecDepth 100000 in
theorem weight_calls (A : Option Addr) (c : Nat) (l : List S70) (w : World) (hr : Kd.C k70 w A l.length l) :
    Calls Try.prog 71 #[.slice A l.length c] w fun e w' => (∃ z, e = .returned (.int .i64 z)) ∧ Below w.heap.size w w' := by
  have hu70 := Try.underlying70
  have hm := Kd.C_max hr
  have HR := Aside0.mk hr
  clear hr
  go_enter Try.func71, Try.ntmps71
  go_wp2
  go_loopw [3, 10] (fun v i wr => ∃ (k : Nat) (z : Int), k ≤ l.length ∧ i = .int .i64 k ∧ v = .int .i64 z ∧ Aside0 (Below w.heap.size w wr)) (fun _ i _ => l.length - (intOf i).toNat)
  case atStart => exact ⟨0, _, Nat.zero_le _, rfl, rfl, bel_refl _⟩
  case round =>
    obtain ⟨k, z, hk, rfl, rfl, HB⟩ := hrel
    by_cases hlt : k < l.length
    · obtain ⟨ad, x, rfl, hd, hx, g0, g1⟩ := el70 HR HB k hlt
      go_wp2
      go_roundw
      case rel => exact ⟨k + 1, _, by omega, by go_num, rfl, bel_alloc HB _⟩
      case measure => simp [intOf]; omega
    · go_wp2
      go_ret
      exact ⟨⟨_, rfl⟩, HB.out⟩
set_option maxHeartbeats 16000000 in
set_option maxRecDepth 100000 in
theorem Weight_calls (x : S30) (cs : List Value) (w : World) (hx : k30.K w x cs) :
    Calls Try.prog 32 #[.agg cs.toArray] w fun e w' => (∃ z, e = .returned (.int .i64 z)) ∧ Below w.heap.size w w' := by
  obtain ⟨A0, c0, A1, c1, A2, c2, A3, c3, A4, c4, A5, c5, A6, c6, rfl, l0, g0, l1, g1, l2, g2, l3, g3, l4, g4, l5, g5, l6, g6⟩ := k30_open hx
  clear hx
  have hu30 := Try.underlying30
  have hu62 := Try.underlying62
  have hu64 := Try.underlying64
  have hu39 := Try.underlying39
  have hu74 := Try.underlying74
  have hm0 := Kd.C_max g0
  have hm1 := Kd.C_max g1
  have hm2 := Kd.C_max g2
  have hm3 := Kd.C_max g3
  have hm4 := Kd.C_max g4
  have hm5 := Kd.C_max g5
  have hm6 := Kd.C_max g6
  replace g0 := Aside0.mk g0
  replace g1 := Aside0.mk g1
  replace g2 := Aside0.mk g2
  replace g3 := Aside0.mk g3
  replace g4 := Aside0.mk g4
  replace g5 := Aside0.mk g5
  replace g6 := Aside0.mk g6
  go_enter Try.func32, Try.ntmps32
  go_wp2
  go_loopw [3, 28] (fun v i wr => ∃ (k : Nat) (z : Int), k ≤ x.f0.length ∧ i = .int .i64 k ∧ v = .int .i64 z ∧ Bx w #[.slice A0 x.f0.length c0, .slice A1 x.f1.length c1, .slice A2 x.f2.length c2, .slice A3 x.f3.length c3, .slice A4 x.f4.length c4, .slice A5 x.f5.length c5, .slice A6 x.f6.length c6] 30 wr) (fun _ i _ => x.f0.length - (intOf i).toNat)
  case atStart => exact ⟨0, _, Nat.zero_le _, rfl, rfl, (Bx.refl _ _ _)⟩
  case round =>
    obtain ⟨k, z, hk, rfl, rfl, HB0⟩ := hrel
    have b7 := HB0.at_
    have hbs := HB0.size
    by_cases hlt : k < x.f0.length
    · obtain ⟨ad, y, rfl, hd, hx, q0, q1⟩ := el62 g0 HB0.bel k hlt
      go_wp2
      go_roundw
      case rel => exact ⟨k + 1, _, by omega, by go_num, rfl, HB0.alloc _⟩
      case measure => simp [intOf]; omega
    · go_wp2
      go_loopw [3, 41] (fun v i wr => ∃ (k : Nat) (z : Int), k ≤ x.f1.length ∧ i = .int .i64 k ∧ v = .int .i64 z ∧ Bx w #[.slice A0 x.f0.length c0, .slice A1 x.f1.length c1, .slice A2 x.f2.length c2, .slice A3 x.f3.length c3, .slice A4 x.f4.length c4, .slice A5 x.f5.length c5, .slice A6 x.f6.length c6] 30 wr) (fun _ i _ => x.f1.length - (intOf i).toNat)
      case atStart => exact ⟨0, _, Nat.zero_le _, rfl, rfl, HB0⟩
      case round =>
        obtain ⟨k, z, hk, rfl, rfl, HB1⟩ := hrel
        have b7 := HB1.at_
        have hbs := HB1.size
        by_cases hlt : k < x.f1.length
        · obtain ⟨ad, y, Ay, cy, rfl, hd, hx, q0, ly, gy⟩ := elL g1 HB1.bel k hlt
          have hmy := Kd.C_max gy.out
          go_wp2
          go_loopw [3, 49] (fun v i wr2 => ∃ (j : Nat) (z : Int), j ≤ y.length ∧ i = .int .i64 j ∧ v = .int .i64 z ∧ Bx w #[.slice A0 x.f0.length c0, .slice (some ad) x.f1.length c1, .slice A2 x.f2.length c2, .slice A3 x.f3.length c3, .slice A4 x.f4.length c4, .slice A5 x.f5.length c5, .slice A6 x.f6.length c6] 30 wr2) (fun _ i _ => y.length - (intOf i).toNat)
          case atStart => exact ⟨0, _, Nat.zero_le _, rfl, rfl, HB1⟩
          case round =>
            obtain ⟨j, z2, hj, rfl, rfl, HBi⟩ := hrel
            by_cases hlj : j < y.length
            · obtain ⟨ad', u, rfl, hd', hx', r0⟩ := elS gy HBi.bel j hlj
              go_wp2
              go_roundw
              case rel => exact ⟨j + 1, _, by omega, by go_num, rfl, HBi⟩
              case measure => simp [intOf]; omega
            · go_wp2
              go_roundw
              case rel => exact ⟨k + 1, _, by omega, by go_num, rfl, HBi⟩
              case measure => simp [intOf]; omega
        · go_wp2
          go_loopw [3, 63] (fun v i wr => ∃ (k : Nat) (z : Int), k ≤ x.f2.length ∧ i = .int .i64 k ∧ v = .int .i64 z ∧ Bx w #[.slice A0 x.f0.length c0, .slice A1 x.f1.length c1, .slice A2 x.f2.length c2, .slice A3 x.f3.length c3, .slice A4 x.f4.length c4, .slice A5 x.f5.length c5, .slice A6 x.f6.length c6] 30 wr) (fun _ i _ => x.f2.length - (intOf i).toNat)
          case atStart => exact ⟨0, _, Nat.zero_le _, rfl, rfl, HB1⟩
          case round =>
            obtain ⟨k, z, hk, rfl, rfl, HB2⟩ := hrel
            have b7 := HB2.at_
            have hbs := HB2.size
            by_cases hlt : k < x.f2.length
            · obtain ⟨ad, y, Ay, cy, rfl, hd, hx, q0, q1, q2, q3, ly, gy⟩ := el64 g2 HB2.bel k hlt
              go_upto_region 20 with fail
              have HX := Bx.refl wr #[.string y.f0, .int .i64 y.f1, .int .i64 y.f2, .slice Ay y.f3.length cy] 64
              have HB2 := HB2.alloc (.cells #[.string y.f0, .int .i64 y.f1, .int .i64 y.f2, .slice Ay y.f3.length cy] 64)
              generalize wr.alloc (.cells #[.string y.f0, .int .i64 y.f1, .int .i64 y.f2, .slice Ay y.f3.length cy] 64) = W at HX HB2 ⊢
              have x0 := (HX.at_ 0).trans rfl
              have x3 := (HX.at_ 3).trans rfl
              have HS := bel_refl W
              have HSD := bel_drew HS
              clear b7 hbs q0 q1 q2 q3
              go_region_held3 (fun w' => w'.cell? ⟨wr.heap.size, 0, none⟩ = some (.string y.f0) ∧ w'.cell? ⟨wr.heap.size, 3, none⟩ = some (.slice Ay y.f3.length cy) ∧ Aside0 (Below W.heap.size W w'))
                (refine ⟨?_, ?_, ?_⟩ <;> first | exact bel_drew (by assumption) | exact bel_step HSD (by assumption) | (go_keep; done) | exact pw_cell_below (by assumption) (by assumption))
                (first | (go_at_call 71; refine (weight_calls Ay cy y.f3 _ (Kd.C_below gy.out (below_step HB2.below HSD.out))).mono ?_; rintro e w5 ⟨⟨z3, rfl⟩, hb5⟩))
              all_goals
                go_wp2_with fail
                go_roundw
                case rel => exact ⟨k + 1, _, by omega, by go_num, rfl, HB2.step (bel_step HSD (by assumption)).out⟩
                case measure => simp [intOf]; omega
            · go_wp2
              go_loopw [3, 81] (fun v i wr => ∃ (k : Nat) (z : Int), k ≤ x.f3.length ∧ i = .int .i64 k ∧ v = .int .i64 z ∧ Bx w #[.slice A0 x.f0.length c0, .slice A1 x.f1.length c1, .slice A2 x.f2.length c2, .slice A3 x.f3.length c3, .slice A4 x.f4.length c4, .slice A5 x.f5.length c5, .slice A6 x.f6.length c6] 30 wr) (fun _ i _ => x.f3.length - (intOf i).toNat)
              case atStart => exact ⟨0, _, Nat.zero_le _, rfl, rfl, HB2⟩
              case round =>
                obtain ⟨k, z, hk, rfl, rfl, HB3⟩ := hrel
                have b7 := HB3.at_
                have hbs := HB3.size
                by_cases hlt : k < x.f3.length
                · obtain ⟨ad, y, Ay, cy, rfl, hd, hx, q0, q1, q2, q3, ly, gy⟩ := el39 g3 HB3.bel k hlt
                  go_upto_region 25 with fail
                  have HX := Bx.refl wr #[.string y.f0, .int .i64 y.f1, .int .i64 y.f2, .slice Ay y.f3.length cy] 39
                  have HB2 := HB3.alloc (.cells #[.string y.f0, .int .i64 y.f1, .int .i64 y.f2, .slice Ay y.f3.length cy] 39)
                  generalize wr.alloc (.cells #[.string y.f0, .int .i64 y.f1, .int .i64 y.f2, .slice Ay y.f3.length cy] 39) = W at HX HB2 ⊢
                  have x0 := (HX.at_ 0).trans rfl
                  have x3 := (HX.at_ 3).trans rfl
                  have HS := bel_refl W
                  have HSD := bel_drew HS
                  clear b7 hbs q0 q1 q2 q3
                  go_region_held3 (fun w' => w'.cell? ⟨wr.heap.size, 0, none⟩ = some (.string y.f0) ∧ w'.cell? ⟨wr.heap.size, 3, none⟩ = some (.slice Ay y.f3.length cy) ∧ Aside0 (Below W.heap.size W w'))
                    (refine ⟨?_, ?_, ?_⟩ <;> first | exact bel_drew (by assumption) | exact bel_step HSD (by assumption) | (go_keep; done) | exact pw_cell_below (by assumption) (by assumption))
                    (first | (go_at_call 71; refine (weight_calls Ay cy y.f3 _ (Kd.C_below gy.out (below_step HB2.below HSD.out))).mono ?_; rintro e w5 ⟨⟨z3, rfl⟩, hb5⟩))
                  all_goals
                    go_wp2_with fail
                    go_roundw
                    case rel => exact ⟨k + 1, _, by omega, by go_num, rfl, HB2.step (bel_step HSD (by assumption)).out⟩
                    case measure => simp [intOf]; omega
                · go_wp2
                  go_loopw [3, 99] (fun v i wr => ∃ (k : Nat) (z : Int), k ≤ x.f4.length ∧ i = .int .i64 k ∧ v = .int .i64 z ∧ Bx w #[.slice A0 x.f0.length c0, .slice A1 x.f1.length c1, .slice A2 x.f2.length c2, .slice A3 x.f3.length c3, .slice A4 x.f4.length c4, .slice A5 x.f5.length c5, .slice A6 x.f6.length c6] 30 wr) (fun _ i _ => x.f4.length - (intOf i).toNat)
                  case atStart => exact ⟨0, _, Nat.zero_le _, rfl, rfl, HB3⟩
                  case round =>
                    obtain ⟨k, z, hk, rfl, rfl, HB4⟩ := hrel
                    have b7 := HB4.at_
                    have hbs := HB4.size
                    by_cases hlt : k < x.f4.length
                    · obtain ⟨ad, y, rfl, hd, hx, q0, q1, q2, q3⟩ := el74 g4 HB4.bel k hlt
                      go_wp2
                      go_roundw
                      case rel => exact ⟨k + 1, _, by omega, by go_num, rfl, HB4.alloc _⟩
                      case measure => simp [intOf]; omega
                    · go_wp2
                      go_loopw [3, 113] (fun v i wr => ∃ (k : Nat) (z : Int), k ≤ x.f6.length ∧ i = .int .i64 k ∧ v = .int .i64 z ∧ Bx w #[.slice A0 x.f0.length c0, .slice A1 x.f1.length c1, .slice A2 x.f2.length c2, .slice A3 x.f3.length c3, .slice A4 x.f4.length c4, .slice A5 x.f5.length c5, .slice A6 x.f6.length c6] 30 wr) (fun _ i _ => x.f6.length - (intOf i).toNat)
                      case atStart => exact ⟨0, _, Nat.zero_le _, rfl, rfl, HB4⟩
                      case round =>
                        obtain ⟨k, z, hk, rfl, rfl, HB5⟩ := hrel
                        have b7 := HB5.at_
                        have hbs := HB5.size
                        by_cases hlt : k < x.f6.length
                        · obtain ⟨ad, y, rfl, hd, hx, q0⟩ := elS g6 HB5.bel k hlt
                          go_wp2
                          go_roundw
                          case rel => exact ⟨k + 1, _, by omega, by go_num, rfl, HB5⟩
                          case measure => simp [intOf]; omega
                        · go_wp2
                          go_ret
                          exact ⟨⟨_, rfl⟩, HB5.below⟩
set_option maxHeartbeats 8000000 in
set_option maxRecDepth 100000 in
theorem heavy_calls (A : Option Addr) (c : Nat) (l : List S30) (w : World) (hr : Kd.C k30 w A l.length l) :
    Calls Try.prog 14 #[.slice A l.length c] w fun e w' => (∃ b, e = .returned (.bool b)) ∧ Below w.heap.size w w' := by
  have hu30 := Try.underlying30
  have hm := Kd.C_max hr
  have HR := Aside0.mk hr
  clear hr
  go_enter Try.func14, Try.ntmps14
  go_wp2
  go_loopw [7] (fun i wr => ∃ k : Nat, k ≤ l.length ∧ i = .int .i64 k ∧ Aside0 (Below w.heap.size w wr)) (fun i _ => l.length - (intOf i).toNat)
  case atStart => exact ⟨0, Nat.zero_le _, rfl, bel_refl _⟩
  case round =>
    obtain ⟨k, hk, rfl, HB⟩ := hrel
    by_cases hlt : k < l.length
    · obtain ⟨ad, x, cs, rfl, hd, hx, hK, hc⟩ := elG HR HB z30 k hlt
      have hKw := k30.K_below HB.out hK
      obtain ⟨A0, c0, A1, c1, A2, c2, A3, c3, A4, c4, A5, c5, A6, c6, rfl, l0, g0, l1, g1, l2, g2, l3, g3, l4, g4, l5, g5, l6, g6⟩ := k30_open hKw
      have q0 : wr.cell? (ad.add (k * 7)) = some (.slice A0 x.f0.length c0) := hc 0 _ rfl
      have q1 : wr.cell? ⟨(ad.add (k * 7)).block, (ad.add (k * 7)).off + 1, none⟩ = some (.slice A1 x.f1.length c1) := (add_field _ _ 1 (by omega)) ▸ hc 1 _ rfl
      have q2 : wr.cell? ⟨(ad.add (k * 7)).block, (ad.add (k * 7)).off + 2, none⟩ = some (.slice A2 x.f2.length c2) := (add_field _ _ 2 (by omega)) ▸ hc 2 _ rfl
      have q3 : wr.cell? ⟨(ad.add (k * 7)).block, (ad.add (k * 7)).off + 3, none⟩ = some (.slice A3 x.f3.length c3) := (add_field _ _ 3 (by omega)) ▸ hc 3 _ rfl
      have q4 : wr.cell? ⟨(ad.add (k * 7)).block, (ad.add (k * 7)).off + 4, none⟩ = some (.slice A4 x.f4.length c4) := (add_field _ _ 4 (by omega)) ▸ hc 4 _ rfl
      have q5 : wr.cell? ⟨(ad.add (k * 7)).block, (ad.add (k * 7)).off + 5, none⟩ = some (.slice A5 x.f5.length c5) := (add_field _ _ 5 (by omega)) ▸ hc 5 _ rfl
      have q6 : wr.cell? ⟨(ad.add (k * 7)).block, (ad.add (k * 7)).off + 6, none⟩ = some (.slice A6 x.f6.length c6) := (add_field _ _ 6 (by omega)) ▸ hc 6 _ rfl
      have hb0 : Below wr.heap.size wr (wr.alloc (.cells #[.slice A0 x.f0.length c0, .slice A1 x.f1.length c1, .slice A2 x.f2.length c2, .slice A3 x.f3.length c3, .slice A4 x.f4.length c4, .slice A5 x.f5.length c5, .slice A6 x.f6.length c6] 30)) := below_alloc (Below.refl _ _) _
      have hW := Weight_calls x _ _ (k30.K_below hb0 hKw)
      clear hc hK hKw l0 g0 l1 g1 l2 g2 l3 g3 l4 g4 l5 g5 l6 g6
      by_cases t1 : 400 < x.f1.length
      · go_wp2
        go_ret
        exact ⟨.inr rfl, (bel_alloc HB _).out⟩
      by_cases t2 : 100 < x.f2.length
      · go_wp2
        go_ret
        exact ⟨.inr rfl, (bel_alloc HB _).out⟩
      by_cases t3 : 300 < x.f3.length
      · go_wp2
        go_ret
        exact ⟨.inr rfl, (bel_alloc HB _).out⟩
      by_cases t4 : 300 < x.f4.length
      · go_wp2
        go_ret
        exact ⟨.inr rfl, (bel_alloc HB _).out⟩
      by_cases t5 : 20 < x.f0.length
      · go_wp2
        go_ret
        exact ⟨.inr rfl, (bel_alloc HB _).out⟩
      go_wp2_with (go_at_call 32; refine hW.mono ?_; rintro e w2 ⟨⟨z, rfl⟩, hb⟩)
      · go_ret
        exact ⟨⟨_, rfl⟩, below_step (bel_alloc HB _).out hb⟩
      · go_roundw
        case rel => exact ⟨k + 1, by omega, by go_num, bel_step (bel_alloc HB _) hb⟩
        case measure => simp [intOf]; omega
    · go_wp2
      go_ret
      exact ⟨⟨_, rfl⟩, HB.out⟩
end Go.Proofs.Ytkdgholmfnidkaa
