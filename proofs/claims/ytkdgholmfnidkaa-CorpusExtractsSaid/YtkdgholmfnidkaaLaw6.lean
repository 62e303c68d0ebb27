/- The law CorpusExtracts returns true whatever came in: no condition. -/
import Derived.Test.YtkdgholmfnidkaaR
import Derived.Test.YtkdgholmfnidkaaS
import Derived.Test.YtkdgholmfnidkaaM
import Derived.Test.YtkdgholmfnidkaaZm
namespace Go.Proofs.Ytkdgholmfnidkaa
open Go.RowKit Go.Proofs.YtkdgholmfnidkaaW.PrintWords Go.Proofs.YtkdgholmfnidkaaW.PrintLast Go.Proofs.YtkdgholmfnidkaaW.PrintMore
theorem eqBy_refl6 {α : Type} {f : α → α → Bool} (h : ∀ a, f a a = true) : ∀ l : List α, eqBy f l l = true
  | [] => rfl
  | a :: l => by rw [eqBy, h, eqBy_refl6 h l]; rfl
theorem eq30_refl6 (x : S30) : eq30 x x = true := by
  have h70 : ∀ a, e70 a a = true := fun a => by simp [e70]
  have h1 : ∀ a, eqBy eS a a = true := fun a => eqBy_refl6 (fun s => by simp [eS]) a
  have h64 : ∀ a, e64 a a = true := fun a => by simp [e64, eqBy_refl6 h70]
  have h39 : ∀ a, e39 a a = true := fun a => by simp [e39, eqBy_refl6 h70]
  simp only [eq30, eqBy_refl6 (f := e62) (fun a => by simp [e62]), eqBy_refl6 h1, eqBy_refl6 h64, eqBy_refl6 h39, eqBy_refl6 (f := e74) (fun a => by simp [e74]), eqBy_refl6 (f := eI) (fun a => by simp [eI]), h1, Bool.and_self]
set_option maxHeartbeats 8000000 in
set_option maxRecDepth 100000 in
theorem law6_calls (x : S30) (cs : List Value) (k : Int) (w : World) (hx : k30.K w x cs) (hok : okC x) (_ : okI x) (_ : (Lit.int .i64 k).wf = true) :
    Calls Try.prog 6 #[.agg cs.toArray, .int .i64 k] w fun e w' => e = .returned (.bool true) ∧ Below w.heap.size w w' := by
  have hu30 := Try.underlying30
  have HK := Aside0.mk hx
  have HOK := Aside0.mk hok
  obtain ⟨A0, c0, A1, c1, A2, c2, A3, c3, A4, c4, A5, c5, A6, c6, rfl, l0, g0, l1, g1, l2, g2, l3, g3, l4, g4, l5, g5, l6, g6⟩ := k30_open hx
  clear hx hok l0 l1 l2 l3 l4 l5 l6 g0 g1 g2 g3 g4 g5 g6
  have B1 := blk_new (w.alloc (.cells #[.slice A0 x.f0.length c0, .slice A1 x.f1.length c1, .slice A2 x.f2.length c2, .slice A3 x.f3.length c3, .slice A4 x.f4.length c4, .slice A5 x.f5.length c5, .slice A6 x.f6.length c6] 30)) (.cells #[.slice A0 x.f0.length c0, .slice A1 x.f1.length c1, .slice A2 x.f2.length c2, .slice A3 x.f3.length c3, .slice A4 x.f4.length c4, .slice A5 x.f5.length c5, .slice A6 x.f6.length c6] 30)
  have HB0 : Bx w #[.slice A0 x.f0.length c0, .slice A1 x.f1.length c1, .slice A2 x.f2.length c2, .slice A3 x.f3.length c3, .slice A4 x.f4.length c4, .slice A5 x.f5.length c5, .slice A6 x.f6.length c6] 30 ((w.alloc (.cells #[.slice A0 x.f0.length c0, .slice A1 x.f1.length c1, .slice A2 x.f2.length c2, .slice A3 x.f3.length c3, .slice A4 x.f4.length c4, .slice A5 x.f5.length c5, .slice A6 x.f6.length c6] 30)).alloc (.cells #[.slice A0 x.f0.length c0, .slice A1 x.f1.length c1, .slice A2 x.f2.length c2, .slice A3 x.f3.length c3, .slice A4 x.f4.length c4, .slice A5 x.f5.length c5, .slice A6 x.f6.length c6] 30)) := (Bx.refl w #[.slice A0 x.f0.length c0, .slice A1 x.f1.length c1, .slice A2 x.f2.length c2, .slice A3 x.f3.length c3, .slice A4 x.f4.length c4, .slice A5 x.f5.length c5, .slice A6 x.f6.length c6] 30).alloc _
  have HH := heavy_calls (some ⟨w.heap.size + 1, 0, none⟩) 1 [x] ((w.alloc (.cells #[.slice A0 x.f0.length c0, .slice A1 x.f1.length c1, .slice A2 x.f2.length c2, .slice A3 x.f3.length c3, .slice A4 x.f4.length c4, .slice A5 x.f5.length c5, .slice A6 x.f6.length c6] 30)).alloc (.cells #[.slice A0 x.f0.length c0, .slice A1 x.f1.length c1, .slice A2 x.f2.length c2, .slice A3 x.f3.length c3, .slice A4 x.f4.length c4, .slice A5 x.f5.length c5, .slice A6 x.f6.length c6] 30)) (C_blk k30 (cs := [.slice A0 x.f0.length c0, .slice A1 x.f1.length c1, .slice A2 x.f2.length c2, .slice A3 x.f3.length c3, .slice A4 x.f4.length c4, .slice A5 x.f5.length c5, .slice A6 x.f6.length c6]) (by rw [World.size_alloc] at B1; exact B1) (Reps.front (k30.K_below HB0.below HK.out) rfl (Reps.none _ _) rfl) (by simp))
  clear B1
  have HC1 := Aside0.mk (fun w' (hw : k30.K w' x [.slice A0 x.f0.length c0, .slice A1 x.f1.length c1, .slice A2 x.f2.length c2, .slice A3 x.f3.length c3, .slice A4 x.f4.length c4, .slice A5 x.f5.length c5, .slice A6 x.f6.length c6]) => Extract_calls x [.slice A0 x.f0.length c0, .slice A1 x.f1.length c1, .slice A2 x.f2.length c2, .slice A3 x.f3.length c3, .slice A4 x.f4.length c4, .slice A5 x.f5.length c5, .slice A6 x.f6.length c6] k w' hw HOK.out)
  have HC2 := Aside0.mk (fun w' (hw : k30.K w' x [.slice A0 x.f0.length c0, .slice A1 x.f1.length c1, .slice A2 x.f2.length c2, .slice A3 x.f3.length c3, .slice A4 x.f4.length c4, .slice A5 x.f5.length c5, .slice A6 x.f6.length c6]) => rExtract_calls x [.slice A0 x.f0.length c0, .slice A1 x.f1.length c1, .slice A2 x.f2.length c2, .slice A3 x.f3.length c3, .slice A4 x.f4.length c4, .slice A5 x.f5.length c5, .slice A6 x.f6.length c6] k w' hw HOK.out)
  go_enter Try.func6, Try.ntmps6
  generalize extOf x k = y at HC1 HC2
  generalize extErr x k = er at HC1 HC2
  go_wp2_with fail
  refine HH.mono ?_
  rintro e w1 ⟨⟨b, rfl⟩, hb⟩
  have HB1 := HB0.step hb
  have b7 := HB1.at_
  clear HH HB0 hb
  cases b
  rotate_left
  · go_wp2
    go_ret
    exact ⟨rfl, HB1.below⟩
  go_wp2_with fail
  refine (HC1.out _ (k30.K_below HB1.below HK.out)).mono ?_
  rintro e w2 ⟨cs1, rfl, hk1, hb⟩
  have HB2 := HB1.step hb
  clear HB1 hb b7
  have HK1 := Aside0.mk hk1
  obtain ⟨B0, d0, B1, d1, B2, d2, B3, d3, B4, d4, B5, d5, B6, d6, rfl, -⟩ := k30_open hk1
  clear hk1
  go_upto_region 4 with fail
  have HB3 := HB2.alloc (.cells #[.slice B0 y.f0.length d0, .slice B1 y.f1.length d1, .slice B2 y.f2.length d2, .slice B3 y.f3.length d3, .slice B4 y.f4.length d4, .slice B5 y.f5.length d5, .slice B6 y.f6.length d6] 30)
  have G1 := blk_new w2 (.cells #[.slice B0 y.f0.length d0, .slice B1 y.f1.length d1, .slice B2 y.f2.length d2, .slice B3 y.f3.length d3, .slice B4 y.f4.length d4, .slice B5 y.f5.length d5, .slice B6 y.f6.length d6] 30)
  replace HK1 := Aside0.mk (k30.K_below (below_alloc (Below.refl _ _) (.cells #[.slice B0 y.f0.length d0, .slice B1 y.f1.length d1, .slice B2 y.f2.length d2, .slice B3 y.f3.length d3, .slice B4 y.f4.length d4, .slice B5 y.f5.length d5, .slice B6 y.f6.length d6] 30)) HK1.out)
  generalize w2.alloc (.cells #[.slice B0 y.f0.length d0, .slice B1 y.f1.length d1, .slice B2 y.f2.length d2, .slice B3 y.f3.length d3, .slice B4 y.f4.length d4, .slice B5 y.f5.length d5, .slice B6 y.f6.length d6] 30) = U1 at HB3 G1 HK1 ⊢
  clear HB2
  have b7 := HB3.at_
  go_wp2_with fail
  refine (HC2.out _ (k30.K_below HB3.below HK.out)).mono ?_
  rintro e w3 ⟨cs2, rfl, hk2, hb⟩
  have HB4 := HB3.step hb
  replace G1 := blk_below G1 hb
  replace HK1 := Aside0.mk (k30.K_below hb HK1.out)
  clear HB3 hb b7
  have HK2 := Aside0.mk hk2
  obtain ⟨C0, e0, C1, e1, C2, e2, C3, e3, C4, e4, C5, e5, C6, e6, rfl, -⟩ := k30_open hk2
  clear hk2
  go_upto_region 5 with fail
  have HB5 := HB4.alloc (.cells #[.slice C0 y.f0.length e0, .slice C1 y.f1.length e1, .slice C2 y.f2.length e2, .slice C3 y.f3.length e3, .slice C4 y.f4.length e4, .slice C5 y.f5.length e5, .slice C6 y.f6.length e6] 30)
  have G2 := blk_new w3 (.cells #[.slice C0 y.f0.length e0, .slice C1 y.f1.length e1, .slice C2 y.f2.length e2, .slice C3 y.f3.length e3, .slice C4 y.f4.length e4, .slice C5 y.f5.length e5, .slice C6 y.f6.length e6] 30)
  replace G1 := blk_alloc G1 (.cells #[.slice C0 y.f0.length e0, .slice C1 y.f1.length e1, .slice C2 y.f2.length e2, .slice C3 y.f3.length e3, .slice C4 y.f4.length e4, .slice C5 y.f5.length e5, .slice C6 y.f6.length e6] 30)
  replace HK1 := Aside0.mk (k30.K_below (below_alloc (Below.refl _ _) (.cells #[.slice C0 y.f0.length e0, .slice C1 y.f1.length e1, .slice C2 y.f2.length e2, .slice C3 y.f3.length e3, .slice C4 y.f4.length e4, .slice C5 y.f5.length e5, .slice C6 y.f6.length e6] 30)) HK1.out)
  replace HK2 := Aside0.mk (k30.K_below (below_alloc (Below.refl _ _) (.cells #[.slice C0 y.f0.length e0, .slice C1 y.f1.length e1, .slice C2 y.f2.length e2, .slice C3 y.f3.length e3, .slice C4 y.f4.length e4, .slice C5 y.f5.length e5, .slice C6 y.f6.length e6] 30)) HK2.out)
  generalize w3.alloc (.cells #[.slice C0 y.f0.length e0, .slice C1 y.f1.length e1, .slice C2 y.f2.length e2, .slice C3 y.f3.length e3, .slice C4 y.f4.length e4, .slice C5 y.f5.length e5, .slice C6 y.f6.length e6] 30) = U2 at HB5 G1 G2 HK1 HK2 ⊢
  clear HB4
  have x7 := blk_cell G1
  have y7 := blk_cell G2
  have hcn := rEqual_calls y y [.slice B0 y.f0.length d0, .slice B1 y.f1.length d1, .slice B2 y.f2.length d2, .slice B3 y.f3.length d3, .slice B4 y.f4.length d4, .slice B5 y.f5.length d5, .slice B6 y.f6.length d6] [.slice C0 y.f0.length e0, .slice C1 y.f1.length e1, .slice C2 y.f2.length e2, .slice C3 y.f3.length e3, .slice C4 y.f4.length e4, .slice C5 y.f5.length e5, .slice C6 y.f6.length e6] U2 HK1.out HK2.out
  rw [eq30_refl6] at hcn
  go_wp2_with fail
  refine hcn.mono ?_
  rintro e w4 ⟨rfl, hb4⟩
  go_wp2_with (go_at_call 17; refine (awake_calls _).mono ?_; rintro e w5 ⟨rfl, hb5⟩)
  go_ret
  exact ⟨rfl, below_step (below_step HB5.below hb4) hb5⟩
end Go.Proofs.Ytkdgholmfnidkaa
