/- The law CorpusValidates returns true whatever came in: no condition. -/
import Derived.Test.YtkdgholmfnidkaaR
import Derived.Test.YtkdgholmfnidkaaZl
namespace Go.Proofs.Ytkdgholmfnidkaa
open Go.RowKit Go.Proofs.YtkdgholmfnidkaaW.PrintWords Go.Proofs.YtkdgholmfnidkaaW.PrintLast Go.Proofs.YtkdgholmfnidkaaW.PrintMore
set_option maxHeartbeats 8000000 in
set_option maxRecDepth 100000 in
theorem law3_calls (x : S30) (cs : List Value) (w : World) (hx : k30.K w x cs) (hok : okC x) (_ : okI x) :
    Calls Try.prog 3 #[.agg cs.toArray] w fun e w' => e = .returned (.bool true) ∧ Below w.heap.size w w' := by
  have hu30 := Try.underlying30
  have HK := Aside0.mk hx
  have HOK := Aside0.mk hok
  obtain ⟨A0, c0, A1, c1, A2, c2, A3, c3, A4, c4, A5, c5, A6, c6, rfl, l0, g0, l1, g1, l2, g2, l3, g3, l4, g4, l5, g5, l6, g6⟩ := k30_open hx
  clear hx hok l0 l1 l2 l3 l4 l5 l6 g0 g1 g2 g3 g4 g5 g6
  have B1 := blk_new (w.alloc (.cells #[.slice A0 x.f0.length c0, .slice A1 x.f1.length c1, .slice A2 x.f2.length c2, .slice A3 x.f3.length c3, .slice A4 x.f4.length c4, .slice A5 x.f5.length c5, .slice A6 x.f6.length c6] 30)) (.cells #[.slice A0 x.f0.length c0, .slice A1 x.f1.length c1, .slice A2 x.f2.length c2, .slice A3 x.f3.length c3, .slice A4 x.f4.length c4, .slice A5 x.f5.length c5, .slice A6 x.f6.length c6] 30)
  have HB0 : Bx w #[.slice A0 x.f0.length c0, .slice A1 x.f1.length c1, .slice A2 x.f2.length c2, .slice A3 x.f3.length c3, .slice A4 x.f4.length c4, .slice A5 x.f5.length c5, .slice A6 x.f6.length c6] 30 ((w.alloc (.cells #[.slice A0 x.f0.length c0, .slice A1 x.f1.length c1, .slice A2 x.f2.length c2, .slice A3 x.f3.length c3, .slice A4 x.f4.length c4, .slice A5 x.f5.length c5, .slice A6 x.f6.length c6] 30)).alloc (.cells #[.slice A0 x.f0.length c0, .slice A1 x.f1.length c1, .slice A2 x.f2.length c2, .slice A3 x.f3.length c3, .slice A4 x.f4.length c4, .slice A5 x.f5.length c5, .slice A6 x.f6.length c6] 30)) := (Bx.refl w #[.slice A0 x.f0.length c0, .slice A1 x.f1.length c1, .slice A2 x.f2.length c2, .slice A3 x.f3.length c3, .slice A4 x.f4.length c4, .slice A5 x.f5.length c5, .slice A6 x.f6.length c6] 30).alloc _
  have HH := heavy_calls (some ⟨w.heap.size + 1, 0, none⟩) 1 [x] ((w.alloc (.cells #[.slice A0 x.f0.length c0, .slice A1 x.f1.length c1, .slice A2 x.f2.length c2, .slice A3 x.f3.length c3, .slice A4 x.f4.length c4, .slice A5 x.f5.length c5, .slice A6 x.f6.length c6] 30)).alloc (.cells #[.slice A0 x.f0.length c0, .slice A1 x.f1.length c1, .slice A2 x.f2.length c2, .slice A3 x.f3.length c3, .slice A4 x.f4.length c4, .slice A5 x.f5.length c5, .slice A6 x.f6.length c6] 30)) (C_blk k30 (cs := [.slice A0 x.f0.length c0, .slice A1 x.f1.length c1, .slice A2 x.f2.length c2, .slice A3 x.f3.length c3, .slice A4 x.f4.length c4, .slice A5 x.f5.length c5, .slice A6 x.f6.length c6]) (by rw [World.size_alloc] at B1; exact B1) (Reps.front (k30.K_below HB0.below HK.out) rfl (Reps.none _ _) rfl) (by simp))
  clear B1
  go_enter Try.func3, Try.ntmps3
  go_wp2_with fail
  refine HH.mono ?_
  rintro e w1 ⟨⟨b, rfl⟩, hb⟩
  have HB1 := HB0.step hb
  have b7 := HB1.at_
  clear HH HB0 hb
  cases b
  rotate_left
  · go_wp2
    go_ret
    exact ⟨rfl, HB1.below⟩
  go_wp2_with fail
  refine (Validate_calls x [.slice A0 x.f0.length c0, .slice A1 x.f1.length c1, .slice A2 x.f2.length c2, .slice A3 x.f3.length c3, .slice A4 x.f4.length c4, .slice A5 x.f5.length c5, .slice A6 x.f6.length c6] _ (k30.K_below HB1.below HK.out) HOK.out).mono ?_
  rintro e w2 ⟨rfl, hb⟩
  have HB2 := HB1.step hb
  clear HB1 hb b7
  have b7 := HB2.at_
  go_wp2_with fail
  refine (rValidate_calls x [.slice A0 x.f0.length c0, .slice A1 x.f1.length c1, .slice A2 x.f2.length c2, .slice A3 x.f3.length c3, .slice A4 x.f4.length c4, .slice A5 x.f5.length c5, .slice A6 x.f6.length c6] _ (k30.K_below HB2.below HK.out) HOK.out).mono ?_
  rintro e w3 ⟨rfl, hb⟩
  have HB3 := HB2.step hb
  clear HB2 hb b7
  have b7 := HB3.at_
  go_wp2_with (go_at_call 17; refine (awake_calls _).mono ?_; rintro e w4 ⟨rfl, hb⟩)
  go_ret
  exact ⟨rfl, below_step HB3.below hb⟩
end Go.Proofs.Ytkdgholmfnidkaa
