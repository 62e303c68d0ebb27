/- The reference's Validate and Valid: what each call returns. -/
import Derived.Test.YtkdgholmfnidkaaZk
namespace Go.Proofs.Ytkdgholmfnidkaa
open Go.RowKit Go.Proofs.YtkdgholmfnidkaaW.PrintWords Go.Proofs.YtkdgholmfnidkaaW.PrintLast Go.Proofs.YtkdgholmfnidkaaW.PrintMore

theorem vErr_eq (x : S30) : vErr x = if ((attrsErr x.f0).2 != 0) = true then ((1 : Int), (attrsErr x.f0).1, (attrsErr x.f0).2) else if ((toksErr x.f0 x.f1).2 != 0) = true then ((2 : Int), (toksErr x.f0 x.f1).1, (toksErr x.f0 x.f1).2) else if ((textsErr x.f2 x.f1.length).2 != 0) = true then ((3 : Int), (textsErr x.f2 x.f1.length).1, (textsErr x.f2 x.f1.length).2) else if ((regsErr x.f2 x.f3).2 != 0) = true then ((4 : Int), (regsErr x.f2 x.f3).1, (regsErr x.f2 x.f3).2) else if ((nodesErr x.f2 x.f4).2 != 0) = true then ((5 : Int), (nodesErr x.f2 x.f4).1, (nodesErr x.f2 x.f4).2) else if ((headsErr x.f1.length x.f2 x.f5 x.f6).2 != 0) = true then ((6 : Int), (headsErr x.f1.length x.f2 x.f5 x.f6).1, (headsErr x.f1.length x.f2 x.f5 x.f6).2) else (0, 0, 0) := rfl
set_option maxHeartbeats 8000000 in
set_option maxRecDepth 100000 in
theorem rValidate_calls (x : S30) (cs : List Value) (w : World) (hx : k30.K w x cs) (hok : okC x) :
    Calls Try.prog 16 #[.agg cs.toArray] w fun e w' => e = .returned (.tuple #[.int .i64 (vErr x).1, .int .i64 (vErr x).2.1, .int .i64 (vErr x).2.2]) ∧ Below w.heap.size w w' := by
  obtain ⟨A0, c0, A1, c1, A2, c2, A3, c3, A4, c4, A5, c5, A6, c6, rfl, l0, g0, l1, g1, l2, g2, l3, g3, l4, g4, l5, g5, l6, g6⟩ := k30_open hx
  have hu30 := Try.underlying30
  have G := Aside0.mk (And.intro g0 (And.intro g1 (And.intro g2 (And.intro g3 (And.intro g4 (And.intro g5 g6))))))
  have HOK := Aside0.mk hok
  have HE := Aside0.mk (vErr_eq x)
  replace l0 := Aside0.mk l0
  replace l2 := Aside0.mk l2
  replace l3 := Aside0.mk l3
  clear g0 g1 g2 g3 g4 g5 g6 hok hx l1 l4 l5 l6
  have HB0 := Bx.refl w #[.slice A0 x.f0.length c0, .slice A1 x.f1.length c1, .slice A2 x.f2.length c2, .slice A3 x.f3.length c3, .slice A4 x.f4.length c4, .slice A5 x.f5.length c5, .slice A6 x.f6.length c6] 30
  go_enter Try.func16, Try.ntmps16
  go_wp2_with fail
  refine (rAttributes_calls A0 c0 x.f0 _ (Kd.C_below G.out.1 HB0.below) l0.out HOK.out.a).mono ?_
  rintro e w1 ⟨rfl, hb⟩
  have HB1 := HB0.step hb
  have b7 := HB1.at_
  clear HB0 hb
  cases he : ((attrsErr x.f0).2 != 0)
  rotate_left
  · go_wp2_with fail
    go_ret3
    exact ⟨ret_three (HE.out.trans (by rw [if_pos he])), HB1.below⟩
  replace HE := Aside0.mk (HE.out.trans (by rw [if_neg (by rw [he]; decide)]))
  have H1 : Aside0 ((attrsErr x.f0).2 = 0) := ⟨by simpa using he⟩
  clear b7
  have b7 := HB1.at_
  go_wp2_with fail
  refine (rTokens_calls (.slice A2 x.f2.length c2) (.slice A3 x.f3.length c3) (.slice A4 x.f4.length c4) (.slice A5 x.f5.length c5) (.slice A6 x.f6.length c6) A0 A1 c0 c1 x.f0 x.f1 _ (Kd.C_below G.out.1 HB1.below) (Kd.C_below G.out.2.1 HB1.below) HOK.out.k).mono ?_
  rintro e w2 ⟨rfl, hb⟩
  have HB2 := HB1.step hb
  have b7 := HB2.at_
  clear HB1 hb
  cases he : ((toksErr x.f0 x.f1).2 != 0)
  rotate_left
  · go_wp2_with fail
    go_ret3
    exact ⟨ret_three (HE.out.trans (by rw [if_pos he])), HB2.below⟩
  replace HE := Aside0.mk (HE.out.trans (by rw [if_neg (by rw [he]; decide)]))
  have H2 : Aside0 ((toksErr x.f0 x.f1).2 = 0) := ⟨by simpa using he⟩
  clear b7
  have b7 := HB2.at_
  go_wp2_with fail
  refine (rTexts_calls (.slice A0 x.f0.length c0) (.slice A3 x.f3.length c3) (.slice A4 x.f4.length c4) (.slice A5 x.f5.length c5) (.slice A6 x.f6.length c6) A2 A1 c2 c1 x.f2 x.f1.length _ (Kd.C_below G.out.2.2.1 HB2.below) l2.out (Kd.C_max G.out.2.1) HOK.out.t).mono ?_
  rintro e w3 ⟨rfl, hb⟩
  have HB3 := HB2.step hb
  have b7 := HB3.at_
  clear HB2 hb
  cases he : ((textsErr x.f2 x.f1.length).2 != 0)
  rotate_left
  · go_wp2_with fail
    go_ret3
    exact ⟨ret_three (HE.out.trans (by rw [if_pos he])), HB3.below⟩
  replace HE := Aside0.mk (HE.out.trans (by rw [if_neg (by rw [he]; decide)]))
  have H3 : Aside0 ((textsErr x.f2 x.f1.length).2 = 0) := ⟨by simpa using he⟩
  clear b7
  have b7 := HB3.at_
  go_wp2_with fail
  refine (rRegions_calls (.slice A0 x.f0.length c0) (.slice A1 x.f1.length c1) (.slice A4 x.f4.length c4) (.slice A5 x.f5.length c5) (.slice A6 x.f6.length c6) A2 A3 c2 c3 x.f2 x.f3 _ (Kd.C_below G.out.2.2.1 HB3.below) (Kd.C_below G.out.2.2.2.1 HB3.below) l3.out HOK.out.r (texts_sep H3.out)).mono ?_
  rintro e w4 ⟨rfl, hb⟩
  have HB4 := HB3.step hb
  have b7 := HB4.at_
  clear HB3 hb
  cases he : ((regsErr x.f2 x.f3).2 != 0)
  rotate_left
  · go_wp2_with fail
    go_ret3
    exact ⟨ret_three (HE.out.trans (by rw [if_pos he])), HB4.below⟩
  replace HE := Aside0.mk (HE.out.trans (by rw [if_neg (by rw [he]; decide)]))
  have H4 : Aside0 ((regsErr x.f2 x.f3).2 = 0) := ⟨by simpa using he⟩
  clear b7
  have b7 := HB4.at_
  go_wp2_with fail
  refine (rNodes_calls (.slice A0 x.f0.length c0) (.slice A1 x.f1.length c1) (.slice A3 x.f3.length c3) (.slice A4 x.f4.length c4) (.slice A5 x.f5.length c5) (.slice A6 x.f6.length c6) A2 A4 c2 c4 x.f2 x.f4 _ (Kd.C_below G.out.2.2.1 HB4.below) (Kd.C_below G.out.2.2.2.2.1 HB4.below) HOK.out.n (texts_sep H3.out)).mono ?_
  rintro e w5 ⟨rfl, hb⟩
  have HB5 := HB4.step hb
  have b7 := HB5.at_
  clear HB4 hb
  cases he : ((nodesErr x.f2 x.f4).2 != 0)
  rotate_left
  · go_wp2_with fail
    go_ret3
    exact ⟨ret_three (HE.out.trans (by rw [if_pos he])), HB5.below⟩
  replace HE := Aside0.mk (HE.out.trans (by rw [if_neg (by rw [he]; decide)]))
  have H5 : Aside0 ((nodesErr x.f2 x.f4).2 = 0) := ⟨by simpa using he⟩
  clear b7
  have b7 := HB5.at_
  go_wp2_with fail
  refine (rHeads_calls (.slice A0 x.f0.length c0) (.slice A3 x.f3.length c3) (.slice A4 x.f4.length c4) A1 A2 A5 A6 x.f1.length c1 c2 c5 c6 x.f2 x.f5 x.f6 _ (Kd.C_below G.out.2.2.1 HB5.below) (Kd.C_below G.out.2.2.2.2.2.1 HB5.below) (Kd.C_below G.out.2.2.2.2.2.2 HB5.below) (by have := toks_le H2.out; omega) HOK.out.f (texts_at H3.out) (texts_sep H3.out) (fun t ht => (texts_in H3.out t ht).2.2.1)).mono ?_
  rintro e w6 ⟨rfl, hb⟩
  have HB6 := HB5.step hb
  have b7 := HB6.at_
  clear HB5 hb
  cases he : ((headsErr x.f1.length x.f2 x.f5 x.f6).2 != 0)
  rotate_left
  · go_wp2_with fail
    go_ret3
    exact ⟨ret_three (HE.out.trans (by rw [if_pos he])), HB6.below⟩
  replace HE := Aside0.mk (HE.out.trans (by rw [if_neg (by rw [he]; decide)]))
  have H6 : Aside0 ((headsErr x.f1.length x.f2 x.f5 x.f6).2 = 0) := ⟨by simpa using he⟩
  go_wp2_with fail
  go_ret3
  exact ⟨ret_three HE.out, HB6.below⟩
set_option maxHeartbeats 1000000 in
theorem rValid_corpus_calls (x : S30) (cs : List Value) (w : World) (hx : k30.K w x cs) (hok : okC x) :
    Calls Try.prog 57 #[.agg cs.toArray] w fun e w' => e = .returned (.bool ((vErr x).2.2 == 0)) ∧ Below w.heap.size w w' := by
  have hb0 : Below w.heap.size w (w.alloc (.cells cs.toArray 30)) := below_alloc (Below.refl _ _) _
  have hc := rValidate_calls x cs (w.alloc (.cells cs.toArray 30)) (k30.K_below hb0 hx) hok
  obtain ⟨A0, c0, A1, c1, A2, c2, A3, c3, A4, c4, A5, c5, A6, c6, rfl, -⟩ := k30_open hx
  clear hx
  have hu30 := Try.underlying30
  go_enter Try.func57, Try.ntmps57
  go_wp2_with (go_at_call 16; refine hc.mono ?_; rintro e w2 ⟨rfl, hb⟩)
  go_ret
  exact ⟨rfl, below_step hb0 hb⟩

end Go.Proofs.Ytkdgholmfnidkaa
