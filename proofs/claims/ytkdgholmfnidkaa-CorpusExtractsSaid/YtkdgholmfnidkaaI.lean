/- The check of a whole corpus. -/
import Derived.Test.YtkdgholmfnidkaaH
namespace Go.Proofs.Ytkdgholmfnidkaa
open Go.RowKit Go.Proofs.YtkdgholmfnidkaaW.PrintWords Go.Proofs.YtkdgholmfnidkaaW.PrintLast Go.Proofs.YtkdgholmfnidkaaW.PrintMore

/-- The strings of a corpus are as long as a machine's memory bears. -/
structure okC (x : S30) : Prop where
  a : ∀ r ∈ x.f0, r.f0.size ≤ 140737488351232
  k : ∀ t ∈ x.f1, ∀ v ∈ t, v.size ≤ 140737488351232
  t : ∀ r ∈ x.f2, okT r
  r : ∀ r ∈ x.f3, okR r
  n : ∀ r ∈ x.f4, r.f0.size ≤ 140737488351232
  f : ∀ r ∈ x.f6, r.size ≤ 140737488351232
def errs (x : S30) : List (Int × Int) := [attrsErr x.f0, toksErr x.f0 x.f1, textsErr x.f2 x.f1.length, regsErr x.f2 x.f3, nodesErr x.f2 x.f4, headsErr x.f1.length x.f2 x.f5 x.f6]
def firstErr : List (Int × Int) → Nat → Int × Int × Int
  | [], _ => (0, 0, 0)
  | p :: l, k => if (p.2 != 0) = true then ((k : Int) + 1, p.1, p.2) else firstErr l (k + 1)
def vErr (x : S30) : Int × Int × Int := firstErr (errs x) 0
theorem ret_three {p q r : Int} {t : Int × Int × Int} (h : t = (p, q, r)) : Ending.returned (.tuple #[.int .i64 p, .int .i64 q, .int .i64 r]) = .returned (.tuple #[.int .i64 t.1, .int .i64 t.2.1, .int .i64 t.2.2]) := by rw [h]
theorem toks_le {at_ : List S62} {l : List (List ByteArray)} (h : (toksErr at_ l).2 = 0) : l.length ≤ 4096 := by
  unfold toksErr at h
  split at h
  · simp at h
  · omega
theorem texts_cover {all : List S64} {n : Int} : ∀ (l : List S64) (e : Int) (k : Nat), (textsGo all n e l k).2 = 0 → k + l.length = all.length → l ≠ [] → ∀ p : Int, e ≤ p → p < n → ∃ t ∈ l, inT p t = true
  | [], _, _, _, _, h, _, _, _ => absurd rfl h
  | t :: l, e, k, h, hl, _, p, h1, h2 => by
    unfold textsGo at h
    split at h
    · simp at h
    split at h
    · simp at h
    split at h
    · simp at h
    split at h
    · simp at h
    split at h
    · rename_i hp; simp at h; simp [h] at hp
    rename_i h5 h6 _
    by_cases hp : p < t.f2
    · exact ⟨t, List.mem_cons_self, by rw [inT]; simp; omega⟩
    · cases l with
      | nil => simp at hl; omega
      | cons u l' =>
        obtain ⟨y, hy, hi⟩ := texts_cover (u :: l') t.f2 (k + 1) h (by simp at hl ⊢; omega) (by simp) p (by omega) h2
        exact ⟨y, List.mem_cons_of_mem _ hy, hi⟩
theorem texts_at {ts : List S64} {n : Nat} (h : (textsErr ts n).2 = 0) : ∀ k : Nat, k < n → 0 ≤ textAt ts k := by
  intro k hk
  unfold textsErr at h
  split at h
  · simp at h
  split at h
  · simp at h
  rename_i _ h0
  have hne : ts ≠ [] := by
    rintro rfl
    have : ((n : Int) == 0) = false := beq_eq_false_iff_ne.2 (by omega)
    simp [this] at h0
  obtain ⟨t, ht, hi⟩ := texts_cover ts 0 0 h (by simp) hne k (by omega) (by omega)
  rcases textAt_cases ts (k : Int) with ⟨h1, h2⟩ | ⟨j, x, hj, h1, h2, h3⟩
  · rw [List.find?_eq_none] at h2
    exact absurd hi (h2 t ht)
  · omega
set_option maxHeartbeats 8000000 in
set_option maxRecDepth 100000 in
theorem Validate_calls (x : S30) (cs : List Value) (w : World) (hx : k30.K w x cs) (hok : okC x) :
    Calls Try.prog 15 #[.agg cs.toArray] w fun e w' => e = .returned (.tuple #[.int .i64 (vErr x).1, .int .i64 (vErr x).2.1, .int .i64 (vErr x).2.2]) ∧ Below w.heap.size w w' := by
  obtain ⟨A0, c0, A1, c1, A2, c2, A3, c3, A4, c4, A5, c5, A6, c6, rfl, l0, g0, l1, g1, l2, g2, l3, g3, l4, g4, l5, g5, l6, g6⟩ := k30_open hx
  have hu30 := Try.underlying30
  go_enter Try.func15, Try.ntmps15
  go_wp2
  clear hx
  have HB0 := (Bx.refl w #[.slice A0 x.f0.length c0, .slice A1 x.f1.length c1, .slice A2 x.f2.length c2, .slice A3 x.f3.length c3, .slice A4 x.f4.length c4, .slice A5 x.f5.length c5, .slice A6 x.f6.length c6] 30).alloc (.cells #[.func (.func 33) #[] #[], .func (.func 34) #[] #[], .func (.func 35) #[] #[], .func (.func 36) #[] #[], .func (.func 37) #[] #[], .func (.func 38) #[] #[]] 56)
  have HF0 : ((w.alloc (.cells #[.slice A0 x.f0.length c0, .slice A1 x.f1.length c1, .slice A2 x.f2.length c2, .slice A3 x.f3.length c3, .slice A4 x.f4.length c4, .slice A5 x.f5.length c5, .slice A6 x.f6.length c6] 30)).alloc (.cells #[.func (.func 33) #[] #[], .func (.func 34) #[] #[], .func (.func 35) #[] #[], .func (.func 36) #[] #[], .func (.func 37) #[] #[], .func (.func 38) #[] #[]] 56)).heap[w.heap.size + 1]? = some (.cells #[.func (.func 33) #[] #[], .func (.func 34) #[] #[], .func (.func 35) #[] #[], .func (.func 36) #[] #[], .func (.func 37) #[] #[], .func (.func 38) #[] #[]] 56 (0, 0)) := by
    have h := blk_new (w.alloc (.cells #[.slice A0 x.f0.length c0, .slice A1 x.f1.length c1, .slice A2 x.f2.length c2, .slice A3 x.f3.length c3, .slice A4 x.f4.length c4, .slice A5 x.f5.length c5, .slice A6 x.f6.length c6] 30)) (.cells #[.func (.func 33) #[] #[], .func (.func 34) #[] #[], .func (.func 35) #[] #[], .func (.func 36) #[] #[], .func (.func 37) #[] #[], .func (.func 38) #[] #[]] 56)
    rwa [World.size_alloc] at h
  have G := Aside0.mk (And.intro g0 (And.intro g1 (And.intro g2 (And.intro g3 (And.intro g4 (And.intro g5 g6))))))
  have HOK := Aside0.mk hok
  clear g0 g1 g2 g3 g4 g5 g6 hok
  go_loopw [13] (fun i wr => ∃ k : Nat, k ≤ 6 ∧ i = .int .i64 k ∧ Aside0 (vErr x = firstErr ((errs x).drop k) k) ∧ Aside0 (2 ≤ k → (toksErr x.f0 x.f1).2 = 0) ∧ Aside0 (3 ≤ k → (textsErr x.f2 x.f1.length).2 = 0) ∧ Bx w #[.slice A0 x.f0.length c0, .slice A1 x.f1.length c1, .slice A2 x.f2.length c2, .slice A3 x.f3.length c3, .slice A4 x.f4.length c4, .slice A5 x.f5.length c5, .slice A6 x.f6.length c6] 30 wr ∧ Aside0 (wr.heap[w.heap.size + 1]? = some (.cells #[.func (.func 33) #[] #[], .func (.func 34) #[] #[], .func (.func 35) #[] #[], .func (.func 36) #[] #[], .func (.func 37) #[] #[], .func (.func 38) #[] #[]] 56 (0, 0)))) (fun i _ => 6 - (intOf i).toNat)
  case atStart => exact ⟨0, by omega, rfl, ⟨rfl⟩, ⟨fun h => absurd h (by decide)⟩, ⟨fun h => absurd h (by decide)⟩, HB0, ⟨HF0⟩⟩
  case round =>
    clear HB0 HF0
    obtain ⟨k, hk, rfl, HN, H2, H3, HB, HF⟩ := hrel
    have b7 := HB.at_
    have hbs := HB.size
    by_cases hlt : k < 6
    rotate_left
    · go_wp2
      go_ret3
      exact ⟨ret_three (by rw [HN.out, show k = 6 by omega]; rfl), HB.below⟩
    have hcs : Aside0 (k = 0 ∨ k = 1 ∨ k = 2 ∨ k = 3 ∨ k = 4 ∨ k = 5) := ⟨by omega⟩
    obtain ⟨hcs⟩ := hcs
    have kw : IntKind.i64.wrap ((k : Int) + 1) = (k : Int) + 1 := IntWalk.i64_in _ (by omega)
    rcases hcs with hcs | hcs
    · have hq := (blk_cell HF.out k).trans (by rw [hcs]; rfl : _ = some (.func (.func 33) #[] #[]))
      have HE := Aside0.mk (HN.out.trans (by subst hcs; rfl : _ = if ((attrsErr x.f0).2 != 0) = true then ((k : Int) + 1, (attrsErr x.f0).1, (attrsErr x.f0).2) else firstErr ((errs x).drop (k + 1)) (k + 1)))
      replace hcs := Aside0.mk hcs
      clear HN
      have hc := attributes_calls (.slice A1 x.f1.length c1) (.slice A2 x.f2.length c2) (.slice A3 x.f3.length c3) (.slice A4 x.f4.length c4) (.slice A5 x.f5.length c5) (.slice A6 x.f6.length c6) A0 c0 x.f0 wr (Kd.C_below (G.out.1) HB.below) l0 HOK.out.a
      cases he : ((attrsErr x.f0).2 != 0)
      · go_wp2_with (go_at_call 33; refine hc.mono ?_; rintro e w2 ⟨rfl, hb⟩; have hfz := blk_cell (blk_below HF.out hb); have b8 := (HB.step hb).at_)
        go_roundw
        case rel => exact ⟨k + 1, by omega, by go_num, ⟨HE.out.trans (by rw [if_neg (by rw [he]; decide)])⟩, ⟨fun h => by have := hcs.out; omega⟩, ⟨fun h => by have := hcs.out; omega⟩, HB.step hb, ⟨blk_below HF.out hb⟩⟩
        case measure => simp [intOf]; omega
      · go_wp2_with (go_at_call 33; refine hc.mono ?_; rintro e w2 ⟨rfl, hb⟩)
        go_ret3
        exact ⟨ret_three (HE.out.trans (by rw [if_pos he])), (HB.step hb).below⟩
    rcases hcs with hcs | hcs
    · have hq := (blk_cell HF.out k).trans (by rw [hcs]; rfl : _ = some (.func (.func 34) #[] #[]))
      have HE := Aside0.mk (HN.out.trans (by subst hcs; rfl : _ = if ((toksErr x.f0 x.f1).2 != 0) = true then ((k : Int) + 1, (toksErr x.f0 x.f1).1, (toksErr x.f0 x.f1).2) else firstErr ((errs x).drop (k + 1)) (k + 1)))
      replace hcs := Aside0.mk hcs
      clear HN
      have hc := tokens_calls (.slice A2 x.f2.length c2) (.slice A3 x.f3.length c3) (.slice A4 x.f4.length c4) (.slice A5 x.f5.length c5) (.slice A6 x.f6.length c6) A0 A1 c0 c1 x.f0 x.f1 wr (Kd.C_below (G.out.1) HB.below) (Kd.C_below (G.out.2.1) HB.below) HOK.out.k
      cases he : ((toksErr x.f0 x.f1).2 != 0)
      · go_wp2_with (go_at_call 34; refine hc.mono ?_; rintro e w2 ⟨rfl, hb⟩; have hfz := blk_cell (blk_below HF.out hb); have b8 := (HB.step hb).at_)
        go_roundw
        case rel => exact ⟨k + 1, by omega, by go_num, ⟨HE.out.trans (by rw [if_neg (by rw [he]; decide)])⟩, ⟨fun _ => by simpa using he⟩, ⟨fun h => by have := hcs.out; omega⟩, HB.step hb, ⟨blk_below HF.out hb⟩⟩
        case measure => simp [intOf]; omega
      · go_wp2_with (go_at_call 34; refine hc.mono ?_; rintro e w2 ⟨rfl, hb⟩)
        go_ret3
        exact ⟨ret_three (HE.out.trans (by rw [if_pos he])), (HB.step hb).below⟩
    rcases hcs with hcs | hcs
    · have hq := (blk_cell HF.out k).trans (by rw [hcs]; rfl : _ = some (.func (.func 35) #[] #[]))
      have HE := Aside0.mk (HN.out.trans (by subst hcs; rfl : _ = if ((textsErr x.f2 x.f1.length).2 != 0) = true then ((k : Int) + 1, (textsErr x.f2 x.f1.length).1, (textsErr x.f2 x.f1.length).2) else firstErr ((errs x).drop (k + 1)) (k + 1)))
      replace hcs := Aside0.mk hcs
      clear HN
      have hc := texts_calls (.slice A0 x.f0.length c0) (.slice A3 x.f3.length c3) (.slice A4 x.f4.length c4) (.slice A5 x.f5.length c5) (.slice A6 x.f6.length c6) A2 A1 c2 c1 x.f2 x.f1.length wr (Kd.C_below (G.out.2.2.1) HB.below) (Kd.C_max (G.out.2.1)) HOK.out.t
      cases he : ((textsErr x.f2 x.f1.length).2 != 0)
      · go_wp2_with (go_at_call 35; refine hc.mono ?_; rintro e w2 ⟨rfl, hb⟩; have hfz := blk_cell (blk_below HF.out hb); have b8 := (HB.step hb).at_)
        go_roundw
        case rel => exact ⟨k + 1, by omega, by go_num, ⟨HE.out.trans (by rw [if_neg (by rw [he]; decide)])⟩, ⟨fun h => H2.out (by have := hcs.out; omega)⟩, ⟨fun _ => by simpa using he⟩, HB.step hb, ⟨blk_below HF.out hb⟩⟩
        case measure => simp [intOf]; omega
      · go_wp2_with (go_at_call 35; refine hc.mono ?_; rintro e w2 ⟨rfl, hb⟩)
        go_ret3
        exact ⟨ret_three (HE.out.trans (by rw [if_pos he])), (HB.step hb).below⟩
    rcases hcs with hcs | hcs
    · have hq := (blk_cell HF.out k).trans (by rw [hcs]; rfl : _ = some (.func (.func 36) #[] #[]))
      have HE := Aside0.mk (HN.out.trans (by subst hcs; rfl : _ = if ((regsErr x.f2 x.f3).2 != 0) = true then ((k : Int) + 1, (regsErr x.f2 x.f3).1, (regsErr x.f2 x.f3).2) else firstErr ((errs x).drop (k + 1)) (k + 1)))
      replace hcs := Aside0.mk hcs
      clear HN
      have hc := regions_calls (.slice A0 x.f0.length c0) (.slice A1 x.f1.length c1) (.slice A4 x.f4.length c4) (.slice A5 x.f5.length c5) (.slice A6 x.f6.length c6) A2 A3 c2 c3 x.f2 x.f3 wr (Kd.C_below (G.out.2.2.1) HB.below) (Kd.C_below (G.out.2.2.2.1) HB.below) HOK.out.r
      cases he : ((regsErr x.f2 x.f3).2 != 0)
      · go_wp2_with (go_at_call 36; refine hc.mono ?_; rintro e w2 ⟨rfl, hb⟩; have hfz := blk_cell (blk_below HF.out hb); have b8 := (HB.step hb).at_)
        go_roundw
        case rel => exact ⟨k + 1, by omega, by go_num, ⟨HE.out.trans (by rw [if_neg (by rw [he]; decide)])⟩, ⟨fun h => H2.out (by have := hcs.out; omega)⟩, ⟨fun h => H3.out (by have := hcs.out; omega)⟩, HB.step hb, ⟨blk_below HF.out hb⟩⟩
        case measure => simp [intOf]; omega
      · go_wp2_with (go_at_call 36; refine hc.mono ?_; rintro e w2 ⟨rfl, hb⟩)
        go_ret3
        exact ⟨ret_three (HE.out.trans (by rw [if_pos he])), (HB.step hb).below⟩
    rcases hcs with hcs | hcs
    · have hq := (blk_cell HF.out k).trans (by rw [hcs]; rfl : _ = some (.func (.func 37) #[] #[]))
      have HE := Aside0.mk (HN.out.trans (by subst hcs; rfl : _ = if ((nodesErr x.f2 x.f4).2 != 0) = true then ((k : Int) + 1, (nodesErr x.f2 x.f4).1, (nodesErr x.f2 x.f4).2) else firstErr ((errs x).drop (k + 1)) (k + 1)))
      replace hcs := Aside0.mk hcs
      clear HN
      have hc := nodes_calls (.slice A0 x.f0.length c0) (.slice A1 x.f1.length c1) (.slice A3 x.f3.length c3) (.slice A5 x.f5.length c5) (.slice A6 x.f6.length c6) A2 A4 c2 c4 x.f2 x.f4 wr (Kd.C_below (G.out.2.2.1) HB.below) (Kd.C_below (G.out.2.2.2.2.1) HB.below) HOK.out.n
      cases he : ((nodesErr x.f2 x.f4).2 != 0)
      · go_wp2_with (go_at_call 37; refine hc.mono ?_; rintro e w2 ⟨rfl, hb⟩; have hfz := blk_cell (blk_below HF.out hb); have b8 := (HB.step hb).at_)
        go_roundw
        case rel => exact ⟨k + 1, by omega, by go_num, ⟨HE.out.trans (by rw [if_neg (by rw [he]; decide)])⟩, ⟨fun h => H2.out (by have := hcs.out; omega)⟩, ⟨fun h => H3.out (by have := hcs.out; omega)⟩, HB.step hb, ⟨blk_below HF.out hb⟩⟩
        case measure => simp [intOf]; omega
      · go_wp2_with (go_at_call 37; refine hc.mono ?_; rintro e w2 ⟨rfl, hb⟩)
        go_ret3
        exact ⟨ret_three (HE.out.trans (by rw [if_pos he])), (HB.step hb).below⟩
    · have hq := (blk_cell HF.out k).trans (by rw [hcs]; rfl : _ = some (.func (.func 38) #[] #[]))
      have HE := Aside0.mk (HN.out.trans (by subst hcs; rfl : _ = if ((headsErr x.f1.length x.f2 x.f5 x.f6).2 != 0) = true then ((k : Int) + 1, (headsErr x.f1.length x.f2 x.f5 x.f6).1, (headsErr x.f1.length x.f2 x.f5 x.f6).2) else firstErr ((errs x).drop (k + 1)) (k + 1)))
      replace hcs := Aside0.mk hcs
      clear HN
      have hc := heads_calls (.slice A0 x.f0.length c0) (.slice A3 x.f3.length c3) (.slice A4 x.f4.length c4) A1 A2 A5 A6 x.f1.length c1 c2 c5 c6 x.f2 x.f5 x.f6 wr (Kd.C_below (G.out.2.2.1) HB.below) (Kd.C_below (G.out.2.2.2.2.2.1) HB.below) (Kd.C_below (G.out.2.2.2.2.2.2) HB.below) (by have := toks_le (H2.out (by have := hcs.out; omega)); omega) HOK.out.f (texts_at (H3.out (by have := hcs.out; omega)))
      cases he : ((headsErr x.f1.length x.f2 x.f5 x.f6).2 != 0)
      · go_wp2_with (go_at_call 38; refine hc.mono ?_; rintro e w2 ⟨rfl, hb⟩; have hfz := blk_cell (blk_below HF.out hb); have b8 := (HB.step hb).at_)
        go_roundw
        case rel => exact ⟨k + 1, by omega, by go_num, ⟨HE.out.trans (by rw [if_neg (by rw [he]; decide)])⟩, ⟨fun h => H2.out (by have := hcs.out; omega)⟩, ⟨fun h => H3.out (by have := hcs.out; omega)⟩, HB.step hb, ⟨blk_below HF.out hb⟩⟩
        case measure => simp [intOf]; omega
      · go_wp2_with (go_at_call 38; refine hc.mono ?_; rintro e w2 ⟨rfl, hb⟩)
        go_ret3
        exact ⟨ret_three (HE.out.trans (by rw [if_pos he])), (HB.step hb).below⟩
end Go.Proofs.Ytkdgholmfnidkaa
