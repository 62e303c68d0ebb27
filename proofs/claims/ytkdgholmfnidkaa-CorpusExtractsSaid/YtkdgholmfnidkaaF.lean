/- The nodes of a corpus: what the check returns. -/
import Derived.Test.YtkdgholmfnidkaaD
namespace Go.Proofs.Ytkdgholmfnidkaa
open Go.RowKit Go.Proofs.YtkdgholmfnidkaaW.PrintWords Go.Proofs.YtkdgholmfnidkaaW.PrintLast Go.Proofs.YtkdgholmfnidkaaW.PrintMore

def nodesGo (ts : List S64) (all : List S74) : List Int → List Int → List S74 → Nat → Int × Int
  | _, _, [], _ => (0, 0)
  | es, ds, x :: l, k => if validName x.f0 = false then ((k : Int), 4) else if inTextB ts x.f1 x.f2 = false then ((k : Int), 8) else if isAnc all x.f3 ((k : Int) - 1) = false then ((k : Int), 6)
      else if 0 ≤ x.f3 ∧ (x.f1 < (rd_T74 all x.f3).f1 ∨ (rd_T74 all x.f3).f2 < x.f2) then ((k : Int), 8) else if x.f1 < rd es (x.f3 + 1) then ((k : Int), 8)
      else if 40 < rd ds (x.f3 + 1) + 1 then ((k : Int), 2) else nodesGo ts all (es.set (x.f3 + 1).toNat x.f2) (ds.set (k + 1) (rd ds (x.f3 + 1) + 1)) l (k + 1)
def nodesErr (ts : List S64) (l : List S74) : Int × Int := if 2048 < l.length then (0, 2) else nodesGo ts l (List.replicate (l.length + 1) 0) (List.replicate (l.length + 1) 0) l 0
/-- The parents of the nodes before k are none, or nodes before them. -/
def parsOk (l : List S74) (k : Nat) : Prop := ∀ j : Int, 0 ≤ j → j < k → -1 ≤ par l j ∧ par l j < j
theorem ancGo_range {l : List S74} {p : Int} {k : Nat} (h : parsOk l k) : ∀ (n : Nat) (i : Int), -1 ≤ i → i < k → -1 ≤ ancGo l p n i ∧ ancGo l p n i ≤ i
  | 0, i, h1, _ => ⟨h1, Int.le_refl _⟩
  | n + 1, i, h1, h2 => by
    unfold ancGo
    by_cases hc : 0 ≤ i ∧ i ≠ p
    · rw [if_pos hc]
      have := h i hc.1 h2
      have ih := ancGo_range h (p := p) n (par l i) this.1 (by omega)
      omega
    · rw [if_neg hc]; omega
theorem isAnc_range {l : List S74} {p : Int} {k : Nat} (h : parsOk l k) (ha : isAnc l p ((k : Int) - 1) = true) : -1 ≤ p ∧ p < k := by
  have := ancGo_range h (p := p) ((k : Int) - 1 + 1).toNat ((k : Int) - 1) (by omega) (by omega)
  have he := of_decide_eq_true ha
  omega
theorem Bx.set_ {w wr : World} {cs : Array Value} {t : TypeId} (h : Bx w cs t wr) {g j : Nat} (hg : w.heap.size < g) (v : Value) : Bx w cs t (wr.setCell ⟨g, j, none⟩ v) := ⟨h.out.setCell (p := ⟨g, j, none⟩) (by simp; omega) v⟩
theorem rd_mem (xs : List Int) (i : Int) (h0 : 0 ≤ i) (h1 : i < xs.length) : rd xs i ∈ xs := by
  have : i.toNat < xs.length := by omega
  rw [rd, List.getD_eq_getElem?_getD, List.getElem?_eq_getElem this]
  exact List.getElem_mem _
theorem rd_same (xs : List Int) (k : Nat) (v : Int) (h : k + 1 < xs.length) : rd (xs.set (k + 1) v) ((k : Int) + 1) = v := by
  rw [rd, show ((k : Int) + 1).toNat = k + 1 by omega, List.getD_eq_getElem?_getD, List.getElem?_set_self h]; rfl
theorem set_bound {xs : List Int} {k : Nat} {v : Int} (h : ∀ d ∈ xs, 0 ≤ d ∧ d ≤ 40) (hv : 0 ≤ v ∧ v ≤ 40) : ∀ d ∈ xs.set k v, 0 ≤ d ∧ d ≤ 40 := by
  intro d hd
  rcases List.mem_or_eq_of_mem_set hd with h' | rfl
  · exact h d h'
  · exact hv
theorem par_at {l : List S74} {k : Nat} {x : S74} (h : l[k]? = some x) : par l (k : Int) = x.f3 := by
  rw [par, rd_T74, Int.toNat_natCast, List.getD_eq_getElem?_getD, h]; rfl
theorem parsOk_succ {l : List S74} {k : Nat} (h : parsOk l k) (hk : -1 ≤ par l (k : Int) ∧ par l (k : Int) < (k : Int)) : parsOk l (k + 1) := by
  intro j h0 h1
  by_cases hj : j = k
  · subst hj; exact hk
  · exact h j h0 (by omega)
/-- A block of numbers. -/
structure Ib (w : World) (g : Nat) (xs : List Int) : Prop where mk :: (out : w.heap[g]? = some (.cells (nums .i64 xs).toArray 3 (0, 0)))
theorem Ib.at_ {w : World} {g : Nat} {xs : List Int} (h : Ib w g xs) (i : Int) (h0 : 0 ≤ i) (h1 : i < xs.length) : w.cell? ⟨g, i.toNat, none⟩ = some (.int .i64 (rd xs i)) ∧ w.frozen? ⟨g, i.toNat, none⟩ = false := by
  refine ⟨?_, blk_frozen h.out _⟩
  rw [blk_cell h.out]
  have : i.toNat < xs.length := by omega
  simp [nums, rd, List.getD_eq_getElem?_getD, List.getElem?_eq_getElem this]
theorem Ib.set_ {w : World} {g : Nat} {xs : List Int} (h : Ib w g xs) (i : Nat) (x : Int) : Ib (w.setCell ⟨g, i, none⟩ (.int .i64 x)) g (xs.set i x) := by
  refine ⟨blk_put h.out _ _ ?_⟩
  simp [nums, List.map_set]
theorem Ib.far {w : World} {g g' i : Nat} {xs : List Int} (h : Ib w g xs) (hg : g ≠ g') (x : Value) : Ib (w.setCell ⟨g', i, none⟩ x) g xs := ⟨blk_far h.out hg x⟩
theorem Ib.below {w w1 : World} {g : Nat} {xs : List Int} (h : Ib w g xs) (hb : Below w.heap.size w w1) : Ib w1 g xs := ⟨blk_below h.out hb⟩
theorem Ib.alloc {w : World} {g : Nat} {xs : List Int} (h : Ib w g xs) (o : Obj) : Ib (w.alloc o) g xs := ⟨blk_alloc h.out o⟩
theorem Ib.made (w : World) (n : Nat) : Ib (w.alloc (.cells (madeCells #[.int .i64 0] n) 3)) w.heap.size (List.replicate n 0) := by
  refine ⟨(blk_new w _).trans ?_⟩
  have hl : madeCells #[Value.int .i64 0] n = (nums .i64 (List.replicate n 0)).toArray := by
    apply Array.ext
    · simp [nums, madeCells]
    · intro i h1 h2
      simp [nums, madeCells, Nat.mod_one]
  rw [hl]
set_option maxHeartbeats 8000000 in
set_option maxRecDepth 100000 in
theorem nodes_calls (v0 v1 v3 v5 v6 : Value) (A A1 : Option Addr) (c c1 : Nat) (ts : List S64) (l : List S74) (w : World) (hrt : Kd.C k64 w A ts.length ts) (hr : Kd.C k74 w A1 l.length l) (hok : ∀ r ∈ l, r.f0.size ≤ 140737488351232) :
    Calls Try.prog 37 #[.agg #[v0, v1, .slice A ts.length c, v3, .slice A1 l.length c1, v5, v6]] w fun e w' => e = .returned (.tuple #[.int .i64 (nodesErr ts l).1, .int .i64 (nodesErr ts l).2]) ∧ Below w.heap.size w w' := by
  have hu30 := Try.underlying30
  have hu74 := Try.underlying74
  have hm := Kd.C_max hr
  have HR := Aside0.mk hr
  have HT := Aside0.mk hrt
  have HK := Aside0.mk hok
  clear hr hrt hok
  by_cases h8 : 2048 < l.length
  · have HE : Aside0 (nodesErr ts l = (0, 2)) := ⟨by rw [nodesErr, if_pos h8]⟩
    go_enter Try.func37, Try.ntmps37
    go_wp2
    go_ret2
    exact ⟨ret_two HE.out, below_alloc (Below.refl _ _) _⟩
  have H0 : Aside0 (nodesErr ts l = nodesGo ts l (List.replicate (l.length + 1) 0) (List.replicate (l.length + 1) 0) (l.drop 0) 0) := ⟨by rw [nodesErr, if_neg h8]; rfl⟩
  have hmk : ∀ W : World, (Instr.makeSlice 27 (.int .i64 ((l.length : Int) + 1)) (.int .i64 ((l.length : Int) + 1))).run Try.prog W = .ok (.slice (some ⟨W.heap.size, 0, none⟩) (l.length + 1) (l.length + 1)) (W.alloc (.cells (madeCells #[.int .i64 0] (l.length + 1)) 3)) :=
    print_make (P := Try.prog) 27 3 .i64 8 Try.underlying27 info3 (by decide) (l.length + 1) (by omega)
  go_enter Try.func37, Try.ntmps37
  go_wp2
  clear hmk
  have HB0 := ((Bx.refl w #[v0, v1, .slice A ts.length c, v3, .slice A1 l.length c1, v5, v6] 30).alloc (.cells (madeCells #[.int .i64 0] (l.length + 1)) 3)).alloc (.cells (madeCells #[.int .i64 0] (l.length + 1)) 3)
  have HE0 : Ib (((w.alloc (.cells #[v0, v1, .slice A ts.length c, v3, .slice A1 l.length c1, v5, v6] 30)).alloc (.cells (madeCells #[.int .i64 0] (l.length + 1)) 3)).alloc (.cells (madeCells #[.int .i64 0] (l.length + 1)) 3)) (w.heap.size + 1) (List.replicate (l.length + 1) 0) := by
    have h := (Ib.made (w.alloc (.cells #[v0, v1, .slice A ts.length c, v3, .slice A1 l.length c1, v5, v6] 30)) (l.length + 1)).alloc (.cells (madeCells #[.int .i64 0] (l.length + 1)) 3)
    rwa [World.size_alloc] at h
  have HD0 : Ib (((w.alloc (.cells #[v0, v1, .slice A ts.length c, v3, .slice A1 l.length c1, v5, v6] 30)).alloc (.cells (madeCells #[.int .i64 0] (l.length + 1)) 3)).alloc (.cells (madeCells #[.int .i64 0] (l.length + 1)) 3)) (w.heap.size + 1 + 1) (List.replicate (l.length + 1) 0) := by
    have h := Ib.made ((w.alloc (.cells #[v0, v1, .slice A ts.length c, v3, .slice A1 l.length c1, v5, v6] 30)).alloc (.cells (madeCells #[.int .i64 0] (l.length + 1)) 3)) (l.length + 1)
    rwa [World.size_alloc, World.size_alloc] at h
  go_loopw [26] (fun i wr => ∃ (k : Nat) (es ds : List Int), k ≤ l.length ∧ i = .int .i64 k ∧ Aside0 (nodesErr ts l = nodesGo ts l es ds (l.drop k) k) ∧ Aside0 (parsOk l k) ∧ Aside0 (∀ d ∈ ds, 0 ≤ d ∧ d ≤ 40) ∧ es.length = l.length + 1 ∧ ds.length = l.length + 1 ∧ Ib wr (w.heap.size + 1) es ∧ Ib wr (w.heap.size + 1 + 1) ds ∧ Bx w #[v0, v1, .slice A ts.length c, v3, .slice A1 l.length c1, v5, v6] 30 wr) (fun i _ => l.length - (intOf i).toNat)
  case atStart => exact ⟨0, _, _, Nat.zero_le _, rfl, H0, ⟨fun j h1 h2 => by omega⟩, ⟨fun d hd => by rw [List.eq_of_mem_replicate hd]; omega⟩, by simp, by simp, HE0, HD0, HB0⟩
  case round =>
    clear H0 HB0 HE0 HD0
    obtain ⟨k, es, ds, hk, rfl, HN, HP, HD, hes, hds, Ie, Id, HB⟩ := hrel
    by_cases hlt : k < l.length
    · obtain ⟨ad, x, rfl, hd, hx, g0, g1, g2, g3⟩ := el74 HR HB.bel k hlt
      have hs0 : x.f0.size ≤ 9223372036854775807 := by have := HK.out x (List.mem_of_getElem? hx.out); omega
      have HE := Aside0.mk (HN.out.trans (by rw [hd.out, nodesGo]))
      have b7 := HB.at_
      have hbs := HB.size
      have hbw : w.heap.size + 1 + 1 < wr.heap.size := blk_lt Id.out
      clear HN
      cases hv : validName x.f0
      · go_wp2_with (go_at_call 72; refine (ValidName_calls _ _ hs0).mono ?_; rintro e w1 ⟨rfl, rfl⟩)
        go_ret2
        exact ⟨ret_two (by rw [HE.out, if_pos hv]), below_alloc HB.below _⟩
      replace HE := Aside0.mk (HE.out.trans (by rw [if_neg (by rw [hv]; decide)]))
      have HX0 := Bx.refl wr #[.string x.f0, .int .i64 x.f1, .int .i64 x.f2, .int .i64 x.f3] 74
      go_wp2_with (go_at_call 72; refine (ValidName_calls _ _ hs0).mono ?_; rintro e w1 ⟨rfl, rfl⟩)
      refine (inText_calls _ _ _ _ _ _ _ _ _ _ _ _ (Kd.C_below HT.out (below_alloc HB.below _))).mono ?_
      rintro e w2 ⟨rfl, hb2⟩
      have HB2 := (HB.alloc (.cells #[.string x.f0, .int .i64 x.f1, .int .i64 x.f2, .int .i64 x.f3] 74)).step hb2
      have HX2 := HX0.step hb2
      have Ie2 := (Ie.alloc (.cells #[.string x.f0, .int .i64 x.f1, .int .i64 x.f2, .int .i64 x.f3] 74)).below hb2
      have Id2 := (Id.alloc (.cells #[.string x.f0, .int .i64 x.f1, .int .i64 x.f2, .int .i64 x.f3] 74)).below hb2
      clear b7 hbs HB HX0 Ie Id hb2
      have b7 := HB2.at_
      have x7 := HX2.at_
      cases hin : inTextB ts x.f1 x.f2
      · go_wp2
        go_ret2
        exact ⟨ret_two (by rw [HE.out, if_pos hin]), HB2.below⟩
      replace HE := Aside0.mk (HE.out.trans (by rw [if_neg (by rw [hin]; decide)]))
      have hkm : IntKind.i64.wrap ((k : Int) - 1) = (k : Int) - 1 := IntWalk.i64_in _ (by omega)
      have hanc := isAncestor_calls (some ad) c1 l x.f3 ((k : Int) - 1) w2 (Kd.C_below HR.out HB2.below) (by omega) (fun j h1 h2 => (HP.out j h1 (by omega)).2)
      cases han : isAnc l x.f3 ((k : Int) - 1)
      · rw [han] at hanc
        go_wp2_with fail
        refine hanc.mono ?_
        rintro e w3 ⟨rfl, rfl⟩
        go_wp2
        go_ret2
        exact ⟨ret_two (by rw [HE.out, if_pos han]), HB2.below⟩
      replace HE := Aside0.mk (HE.out.trans (by rw [if_neg (by rw [han]; decide)]))
      have hr := isAnc_range HP.out han
      rw [han] at hanc
      go_wp2_with fail
      refine hanc.mono ?_
      rintro e w3 ⟨rfl, rfl⟩
      clear hanc
      have h1w : IntKind.i64.wrap (x.f3 + 1) = x.f3 + 1 := IntWalk.i64_in _ (by omega)
      have e0 : 0 ≤ x.f3 + 1 := by omega
      have e1 : x.f3 + 1 < ((l.length + 1 : Nat) : Int) := by omega
      by_cases hp0 : 0 ≤ x.f3
      · obtain ⟨ad', y, hA, -, hy, q0, q1, q2, q3⟩ := el74 HR HB2.bel x.f3.toNat (by omega)
        obtain rfl := Option.some.inj hA
        have hyr : Aside0 (rd_T74 l x.f3 = y) := ⟨by rw [rd_T74, List.getD_eq_getElem?_getD, hy.out]; rfl⟩
        have g5 : x.f3 < (l.length : Int) := by omega
        have hxs := HX2.size
        by_cases hb : x.f1 < y.f1
        · replace HE := Aside0.mk (HE.out.trans (by rw [if_pos ⟨hp0, .inl (by rw [hyr.out]; exact hb)⟩]))
          go_wp2
          go_ret2
          exact ⟨ret_two HE.out, (HB2.alloc _).below⟩
        by_cases hb2 : y.f2 < x.f2
        · replace HE := Aside0.mk (HE.out.trans (by rw [if_pos ⟨hp0, .inr (by rw [hyr.out]; exact hb2)⟩]))
          go_wp2
          go_ret2
          exact ⟨ret_two HE.out, (HB2.alloc _).below⟩
        · replace HE := Aside0.mk (HE.out.trans (by rw [if_neg (by rw [hyr.out]; exact fun h => h.2.elim hb hb2)]))
          have HB4 := HB2.alloc (.cells #[.string y.f0, .int .i64 y.f1, .int .i64 y.f2, .int .i64 y.f3] 74)
          have HX4 := HX2.alloc (.cells #[.string y.f0, .int .i64 y.f1, .int .i64 y.f2, .int .i64 y.f3] 74)
          have Ie4 := Ie2.alloc (.cells #[.string y.f0, .int .i64 y.f1, .int .i64 y.f2, .int .i64 y.f3] 74)
          have Id4 := Id2.alloc (.cells #[.string y.f0, .int .i64 y.f1, .int .i64 y.f2, .int .i64 y.f3] 74)
          go_upto_region 18 with fail
          generalize w2.alloc (.cells #[.string y.f0, .int .i64 y.f1, .int .i64 y.f2, .int .i64 y.f3] 74) = W4 at HB4 HX4 Ie4 Id4 ⊢
          clear b7 x7 q0 q1 q2 q3 g0 g1 g2 g3
          have b7 := HB4.at_
          have x7 := HX4.at_
          have q := Ie4.at_ (x.f3 + 1) (by omega) (by omega)
          go_quiet (fail)
          by_cases hlt3 : x.f1 < rd es (x.f3 + 1)
          · go_wp2
            go_ret2
            exact ⟨ret_two (by rw [HE.out, if_pos hlt3]), (HB4.drewN _).below⟩
          replace HE := Aside0.mk (HE.out.trans (by rw [if_neg hlt3]))
          go_upto_region 21 with fail
          have HB5 := (HB4.drewN nq).set_ (g := w.heap.size + 1) (j := (x.f3 + 1).toNat) (by omega) (.int .i64 x.f2)
          have Ie5 := (Ie4.below (pw_below_drewN (Below.refl _ _) nq)).set_ (x.f3 + 1).toNat x.f2
          have Id5 := (Id4.below (pw_below_drewN (Below.refl _ _) nq)).far (g' := w.heap.size + 1) (i := (x.f3 + 1).toNat) (by omega) (.int .i64 x.f2)
          have Xb5 := blk_far (blk_drewN HX4.blk nq) (p := ⟨w.heap.size + 1, (x.f3 + 1).toNat, none⟩) (by simp; omega) (.int .i64 x.f2)
          generalize (W4.drewN nq).setCell ⟨w.heap.size + 1, (x.f3 + 1).toNat, none⟩ (.int .i64 x.f2) = W5 at HB5 Ie5 Id5 Xb5 ⊢
          have q1 := Id5.at_ (x.f3 + 1) (by omega) (by omega)
          have q2 := Id5.at_ ((k : Int) + 1) (by omega) (by omega)
          rw [show ((k : Int) + 1).toNat = k + 1 by omega] at q2
          have q3 := (blk_cell Xb5 3).trans rfl
          have hkw : IntKind.i64.wrap ((k : Int) + 1) = (k : Int) + 1 := IntWalk.i64_in _ (by omega)
          have hdm := HD.out (rd ds (x.f3 + 1)) (rd_mem ds _ e0 (by omega))
          have hdw : IntKind.i64.wrap (rd ds (x.f3 + 1) + 1) = rd ds (x.f3 + 1) + 1 := IntWalk.i64_in _ (by omega)
          go_upto_region 22 with fail
          have HB6 := HB5.set_ (g := w.heap.size + 1 + 1) (j := k + 1) (by omega) (.int .i64 (rd ds (x.f3 + 1) + 1))
          have Ie6 := Ie5.far (g' := w.heap.size + 1 + 1) (i := k + 1) (by omega) (.int .i64 (rd ds (x.f3 + 1) + 1))
          have Id6 := Id5.set_ (k + 1) (rd ds (x.f3 + 1) + 1)
          generalize W5.setCell ⟨w.heap.size + 1 + 1, k + 1, none⟩ (.int .i64 (rd ds (x.f3 + 1) + 1)) = W6 at HB6 Ie6 Id6 ⊢
          have q6 := Id6.at_ ((k : Int) + 1) (by omega) (by simp; omega)
          rw [rd_same ds _ _ (by omega), show ((k : Int) + 1).toNat = k + 1 by omega] at q6
          clear HB5 Ie5 Id5 Xb5 q1 q2 q3
          have hnx : Aside0 (parsOk l (k + 1)) := ⟨parsOk_succ HP.out (by rw [par_at hx.out]; exact ⟨hr.1, hr.2⟩)⟩
          by_cases h40 : 40 < rd ds (x.f3 + 1) + 1
          · go_wp2
            go_ret2
            exact ⟨ret_two (by rw [HE.out, if_pos h40]), HB6.below⟩
          · go_wp2
            go_roundw
            case rel => exact ⟨k + 1, es.set (x.f3 + 1).toNat x.f2, ds.set (k + 1) (rd ds (x.f3 + 1) + 1), by omega, by go_num, ⟨by rw [HE.out, if_neg h40]⟩, hnx, ⟨set_bound HD.out (by omega)⟩, by simp; omega, by simp; omega, Ie6, Id6, HB6⟩
            case measure => simp [intOf]; omega
      · replace HE := Aside0.mk (HE.out.trans (by rw [if_neg (fun h => hp0 h.1)]))
        have HB4 := HB2
        have HX4 := HX2
        have Ie4 := Ie2
        have Id4 := Id2
        go_upto_region 18 with fail
        have q := Ie2.at_ (x.f3 + 1) (by omega) (by omega)
        go_quiet (fail)
        by_cases hlt3 : x.f1 < rd es (x.f3 + 1)
        · go_wp2
          go_ret2
          exact ⟨ret_two (by rw [HE.out, if_pos hlt3]), (HB4.drewN _).below⟩
        replace HE := Aside0.mk (HE.out.trans (by rw [if_neg hlt3]))
        go_upto_region 21 with fail
        have HB5 := (HB4.drewN nq).set_ (g := w.heap.size + 1) (j := (x.f3 + 1).toNat) (by omega) (.int .i64 x.f2)
        have Ie5 := (Ie4.below (pw_below_drewN (Below.refl _ _) nq)).set_ (x.f3 + 1).toNat x.f2
        have Id5 := (Id4.below (pw_below_drewN (Below.refl _ _) nq)).far (g' := w.heap.size + 1) (i := (x.f3 + 1).toNat) (by omega) (.int .i64 x.f2)
        have Xb5 := blk_far (blk_drewN HX4.blk nq) (p := ⟨w.heap.size + 1, (x.f3 + 1).toNat, none⟩) (by simp; omega) (.int .i64 x.f2)
        generalize (w2.drewN nq).setCell ⟨w.heap.size + 1, (x.f3 + 1).toNat, none⟩ (.int .i64 x.f2) = W5 at HB5 Ie5 Id5 Xb5 ⊢
        have q1 := Id5.at_ (x.f3 + 1) (by omega) (by omega)
        have q2 := Id5.at_ ((k : Int) + 1) (by omega) (by omega)
        rw [show ((k : Int) + 1).toNat = k + 1 by omega] at q2
        have q3 := (blk_cell Xb5 3).trans rfl
        have hkw : IntKind.i64.wrap ((k : Int) + 1) = (k : Int) + 1 := IntWalk.i64_in _ (by omega)
        have hdm := HD.out (rd ds (x.f3 + 1)) (rd_mem ds _ e0 (by omega))
        have hdw : IntKind.i64.wrap (rd ds (x.f3 + 1) + 1) = rd ds (x.f3 + 1) + 1 := IntWalk.i64_in _ (by omega)
        go_upto_region 22 with fail
        have HB6 := HB5.set_ (g := w.heap.size + 1 + 1) (j := k + 1) (by omega) (.int .i64 (rd ds (x.f3 + 1) + 1))
        have Ie6 := Ie5.far (g' := w.heap.size + 1 + 1) (i := k + 1) (by omega) (.int .i64 (rd ds (x.f3 + 1) + 1))
        have Id6 := Id5.set_ (k + 1) (rd ds (x.f3 + 1) + 1)
        generalize W5.setCell ⟨w.heap.size + 1 + 1, k + 1, none⟩ (.int .i64 (rd ds (x.f3 + 1) + 1)) = W6 at HB6 Ie6 Id6 ⊢
        have q6 := Id6.at_ ((k : Int) + 1) (by omega) (by simp; omega)
        rw [rd_same ds _ _ (by omega), show ((k : Int) + 1).toNat = k + 1 by omega] at q6
        clear HB5 Ie5 Id5 Xb5 q1 q2 q3
        have hnx : Aside0 (parsOk l (k + 1)) := ⟨parsOk_succ HP.out (by rw [par_at hx.out]; exact ⟨hr.1, hr.2⟩)⟩
        by_cases h40 : 40 < rd ds (x.f3 + 1) + 1
        · go_wp2
          go_ret2
          exact ⟨ret_two (by rw [HE.out, if_pos h40]), HB6.below⟩
        · go_wp2
          go_roundw
          case rel => exact ⟨k + 1, es.set (x.f3 + 1).toNat x.f2, ds.set (k + 1) (rd ds (x.f3 + 1) + 1), by omega, by go_num, ⟨by rw [HE.out, if_neg h40]⟩, hnx, ⟨set_bound HD.out (by omega)⟩, by simp; omega, by simp; omega, Ie6, Id6, HB6⟩
          case measure => simp [intOf]; omega
    · go_wp2
      go_ret2
      exact ⟨ret_two (by rw [HN.out, List.drop_eq_nil_of_le (by omega)]; rfl), HB.below⟩
end Go.Proofs.Ytkdgholmfnidkaa
