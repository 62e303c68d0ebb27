/- The regions of a corpus: what the check returns. -/
import Derived.Test.YtkdgholmfnidkaaD
import Derived.Deep.RegionHeld3
namespace Go.Proofs.Ytkdgholmfnidkaa
open Go.RowKit Go.Proofs.YtkdgholmfnidkaaW.PrintWords Go.Proofs.YtkdgholmfnidkaaW.PrintLast Go.Proofs.YtkdgholmfnidkaaW.PrintMore

theorem bel_drew {w W : World} (h : Aside0 (Below w.heap.size w W)) : Aside0 (Below w.heap.size w W.drew) := ⟨h.out.drew⟩
def prevGt : Option S39 → S39 → Bool
  | some p, r => decide (0 < cmpR p r)
  | none, _ => false
def regGo (ts : List S64) : List S39 → Option S39 → List S39 → Nat → Int × Int
  | _, _, [], _ => (0, 0)
  | op, prev, r :: l, k => if validName r.f0 = false then ((k : Int), 4) else if inTextB ts r.f1 r.f2 = false then ((k : Int), 8) else if (pairsErr r.f3 != 0) = true then ((k : Int), pairsErr r.f3)
      else if prevGt prev r = true then ((k : Int), 6) else if ((op.filter fun o => decide (r.f1 < o.f2)).any fun o => (o.f0.toList == r.f0.toList) && crossesB o r) = true then ((k : Int), 13)
      else if 40 < (op.filter fun o => decide (r.f1 < o.f2)).length + 1 then ((k : Int), 2) else regGo ts ((op.filter fun o => decide (r.f1 < o.f2)) ++ [r]) (some r) l (k + 1)
def regsErr (ts : List S64) (l : List S39) : Int × Int := if 1024 < l.length then (0, 2) else regGo ts [] none l 0
def okR (r : S39) : Prop := r.f0.size ≤ 140737488351232 ∧ ∀ p ∈ r.f3, okP p
def prevR (l : List S39) (k : Nat) : Option S39 := if k = 0 then none else l[k - 1]?
/-- A region's cells; the keys whatever they are. -/
def regCells (x : S39) (c : List Value) : Prop := ∃ A n cp, c = [.string x.f0, .int .i64 x.f1, .int .i64 x.f2, .slice A n cp]
theorem elReg {w wr : World} {base : Nat} {v : Value} {ps : List S39} (h : Aside0 (OwnRow regCells 39 4 w base v ps)) (hB : Aside0 (Below w.heap.size w wr)) (k : Nat) (hk : k < ps.length) :
    ∃ ad x A n cp c0, v = .slice (some ad) ps.length c0 ∧ Aside0 (ps.drop k = x :: ps.drop (k + 1)) ∧ wr.cell? (ad.add (k * 4)) = some (.string x.f0) ∧ wr.cell? ⟨(ad.add (k * 4)).block, (ad.add (k * 4)).off + 1, none⟩ = some (.int .i64 x.f1) ∧
      wr.cell? ⟨(ad.add (k * 4)).block, (ad.add (k * 4)).off + 2, none⟩ = some (.int .i64 x.f2) ∧ wr.cell? ⟨(ad.add (k * 4)).block, (ad.add (k * 4)).off + 3, none⟩ = some (.slice A n cp) := by
  obtain ⟨A, c0, rfl, _, hr⟩ := h.out.reads
  obtain ⟨ad, c, rfl, _, ⟨A3, n3, cp3, rfl⟩, hc⟩ := hr.get_ z39 (k : Int) (by omega) (by omega)
  simp only [Int.toNat_natCast] at hc
  have hc' := fun j u hu => pw_cell_below hB.out (hc j u hu)
  have hd := dropG z39 ps k hk
  exact ⟨ad, _, A3, n3, cp3, c0, rfl, ⟨hd⟩, hc' 0 _ rfl, (add_field _ _ 1 (by omega)) ▸ hc' 1 _ rfl, (add_field _ _ 2 (by omega)) ▸ hc' 2 _ rfl, (add_field _ _ 3 (by omega)) ▸ hc' 3 _ rfl⟩
theorem rowLen {w : World} {base : Nat} {v : Value} {ps : List S39} (h : OwnRow regCells 39 4 w base v ps) : ∃ A c, v = .slice A ps.length c := by
  obtain ⟨A, c, e, _⟩ := h.slice_
  exact ⟨A, c, e⟩
theorem info39 : (Try.prog.info? 39).map (fun i => (i.zero, i.size, i.bytes)) = some (some (.agg #[.string ⟨#[]⟩, .int .i64 0, .int .i64 0, .slice none 0 0]), 4, 56) := by kernel_rfl
set_option maxHeartbeats 8000000 in
set_option maxRecDepth 100000 in
theorem regions_calls (v0 v1 v4 v5 v6 : Value) (A A1 : Option Addr) (c c1 : Nat) (ts : List S64) (l : List S39) (w : World) (hrt : Kd.C k64 w A ts.length ts) (hr : Kd.C k39 w A1 l.length l) (hok : ∀ r ∈ l, okR r) :
    Calls Try.prog 36 #[.agg #[v0, v1, .slice A ts.length c, .slice A1 l.length c1, v4, v5, v6]] w fun e w' => e = .returned (.tuple #[.int .i64 (regsErr ts l).1, .int .i64 (regsErr ts l).2]) ∧ Below w.heap.size w w' := by
  have hu30 := Try.underlying30
  have hu39 := Try.underlying39
  have hm := Kd.C_max hr
  have HR := Aside0.mk hr
  have HT := Aside0.mk hrt
  have HK := Aside0.mk hok
  clear hr hrt hok
  by_cases h8 : 1024 < l.length
  · have HE : Aside0 (regsErr ts l = (0, 2)) := ⟨by rw [regsErr, if_pos h8]⟩
    go_enter Try.func36, Try.ntmps36
    go_wp2
    go_ret2
    exact ⟨ret_two HE.out, below_alloc (Below.refl _ _) _⟩
  have H0 : Aside0 (regsErr ts l = regGo ts [] (prevR l 0) (l.drop 0) 0) := ⟨by rw [regsErr, if_neg h8]; rfl⟩
  go_enter Try.func36, Try.ntmps36
  go_wp2
  go_loopw [4, 20] (fun v i wr => ∃ (k : Nat) (op : List S39), k ≤ l.length ∧ i = .int .i64 k ∧ Aside0 (regsErr ts l = regGo ts op (prevR l k) (l.drop k) k) ∧ Aside0 (op.length ≤ 40) ∧ Aside0 (OwnRow regCells 39 4 wr w.heap.size v op) ∧ Bx w #[v0, v1, .slice A ts.length c, .slice A1 l.length c1, v4, v5, v6] 30 wr) (fun _ i _ => l.length - (intOf i).toNat)
  case atStart => exact ⟨0, [], Nat.zero_le _, rfl, H0, ⟨by simp⟩, ⟨OwnRow.none_ _ _ _ _ _⟩, Bx.refl _ _ _⟩
  case round =>
    clear H0
    obtain ⟨k, op, hk, rfl, HN, Hop, HO, HB⟩ := hrel
    by_cases hlt : k < l.length
    · obtain ⟨ad, x, A3, c3, rfl, hd, hx, g0, g1, g2, g3, HL3, HR3⟩ := el39 HR HB.bel k hlt
      have hox := HK.out x (List.mem_of_getElem? hx.out)
      have hs0 : x.f0.size ≤ 9223372036854775807 := by have := hox.1; omega
      have hs3 := Aside0.mk hox.2
      have HE := Aside0.mk (HN.out.trans (by rw [hd.out, regGo]))
      have b7 := HB.at_
      have hbs := HB.size
      clear HN hox
      cases hv : validName x.f0
      · go_wp2_with (go_at_call 72; refine (ValidName_calls _ _ hs0).mono ?_; rintro e w1 ⟨rfl, rfl⟩)
        go_ret2
        exact ⟨ret_two (by rw [HE.out, if_pos hv]), below_alloc HB.below _⟩
      replace HE := Aside0.mk (HE.out.trans (by rw [if_neg (by rw [hv]; decide)]))
      have HX0 := Bx.refl wr #[.string x.f0, .int .i64 x.f1, .int .i64 x.f2, .slice A3 x.f3.length c3] 39
      go_wp2_with (go_at_call 72; refine (ValidName_calls _ _ hs0).mono ?_; rintro e w1 ⟨rfl, rfl⟩)
      refine (inText_calls _ _ _ _ _ _ _ _ _ _ _ _ (Kd.C_below HT.out (below_alloc HB.below _))).mono ?_
      rintro e w2 ⟨rfl, hb2⟩
      have HB2 := (HB.alloc (.cells #[.string x.f0, .int .i64 x.f1, .int .i64 x.f2, .slice A3 x.f3.length c3] 39)).step hb2
      have HX2 := HX0.step hb2
      have HO2 := Aside0.mk ((HO.out.below (below_alloc (Below.refl _ _) _)).below hb2)
      clear b7 hbs HB HX0 HO hb2
      have b7 := HB2.at_
      have x7 := HX2.at_
      cases hin : inTextB ts x.f1 x.f2
      · go_wp2
        go_ret2
        exact ⟨ret_two (by rw [HE.out, if_pos hin]), HB2.below⟩
      replace HE := Aside0.mk (HE.out.trans (by rw [if_neg (by rw [hin]; decide)]))
      go_wp2_with fail
      refine (errorOfPairs_calls _ _ _ _ (Kd.C_below HR3.out HB2.below) hs3.out).mono ?_
      rintro e w3 ⟨rfl, hb3⟩
      have HB3 := HB2.step hb3
      have HX3 := HX2.step hb3
      have HO3 := Aside0.mk (HO2.out.below hb3)
      clear b7 x7 HB2 HX2 HO2 hb3
      cases hpe : pairsErr x.f3 != 0
      rotate_left
      · go_wp2
        go_ret2
        exact ⟨ret_two (by rw [HE.out, if_pos hpe]), HB3.below⟩
      replace HE := Aside0.mk (HE.out.trans (by rw [if_neg (by rw [hpe]; decide)]))
      have b7 := HB3.at_
      have x7 := HX3.at_
      go_upto_region 14 with fail
      go_cut [59] (fun v w4 => v = .bool (prevGt (prevR l k) x) ∧ Bx w #[v0, v1, .slice A ts.length c, .slice (some ad) l.length c1, v4, v5, v6] 30 w4 ∧ Bx wr #[.string x.f0, .int .i64 x.f1, .int .i64 x.f2, .slice A3 x.f3.length c3] 39 w4 ∧ Aside0 (OwnRow regCells 39 4 w4 w.heap.size u4 op))
      case first =>
        by_cases hk0 : k = 0
        · have hg : decide ((0 : Int) < (k : Int)) = false := by simp; omega
          have hgn : decide (0 < k) = false := by simp; omega
          have HP : Aside0 (prevGt (prevR l k) x = false) := ⟨by rw [prevR, if_pos hk0]; rfl⟩
          clear hk0
          go_quiet (fail)
          go_wp2_with fail
          go_meet
          exact ⟨by rw [HP.out], HB3.drewN _, HX3.drewN _, ⟨HO3.out.below (pw_below_drewN (Below.refl _ _) _)⟩⟩
        · have hg : decide ((0 : Int) < (k : Int)) = true := by simp; omega
          have hgn : decide (0 < k) = true := by simp; omega
          obtain ⟨ad', y, A4, c4, hA, -, hy, q0, q1, q2, q3, HL4, HR4⟩ := el39 HR HB3.bel (k - 1) (by omega)
          obtain rfl := Option.some.inj hA
          have HP : Aside0 (prevGt (prevR l k) x = decide (0 < cmpR y x)) := ⟨by rw [prevR, if_neg hk0, hy.out]; rfl⟩
          have g2 : ((k : Int) - 1).toNat = k - 1 := by omega
          have g3 : IntKind.i64.wrap ((k : Int) - 1) = (k : Int) - 1 := IntWalk.i64_in _ (by omega)
          have g4 : (0 : Int) ≤ (k : Int) - 1 := by omega
          have g5 : ((k : Int) - 1) < (l.length : Int) := by omega
          have g6 : (1 : Int) ≤ (k : Int) := by omega
          have p3 := (HB3.at_ 3).trans rfl
          have r0 := (HX3.at_ 0).trans rfl
          have r1 := (HX3.at_ 1).trans rfl
          have r2 := (HX3.at_ 2).trans rfl
          have r3 := (HX3.at_ 3).trans rfl
          have HS := bel_refl w3
          have HSD := bel_drew HS
          clear b7 x7 hk0
          go_region_held3 (fun w' => w'.cell? ⟨w.heap.size, 3, none⟩ = some (.slice (some ad) l.length c1) ∧
            w'.cell? (ad.add ((k - 1) * 4)) = some (.string y.f0) ∧ w'.cell? ⟨(ad.add ((k - 1) * 4)).block, (ad.add ((k - 1) * 4)).off + 1, none⟩ = some (.int .i64 y.f1) ∧ w'.cell? ⟨(ad.add ((k - 1) * 4)).block, (ad.add ((k - 1) * 4)).off + 2, none⟩ = some (.int .i64 y.f2) ∧ w'.cell? ⟨(ad.add ((k - 1) * 4)).block, (ad.add ((k - 1) * 4)).off + 3, none⟩ = some (.slice A4 y.f3.length c4) ∧
            w'.cell? ⟨wr.heap.size, 0, none⟩ = some (.string x.f0) ∧ w'.cell? ⟨wr.heap.size, 1, none⟩ = some (.int .i64 x.f1) ∧ w'.cell? ⟨wr.heap.size, 2, none⟩ = some (.int .i64 x.f2) ∧ w'.cell? ⟨wr.heap.size, 3, none⟩ = some (.slice A3 x.f3.length c3) ∧ Aside0 (Below w3.heap.size w3 w'))
            (refine ⟨?_, ?_, ?_, ?_, ?_, ?_, ?_, ?_, ?_, ?_⟩ <;> first | go_keep | exact bel_drew (by assumption) | exact bel_step HSD (by assumption) | exact pw_cell_below (by assumption) (by assumption))
            (first | (go_at_call 18; refine (CompareRegions_calls y x A4 A3 c4 c3 _ (Kd.C_below HR4.out (below_step HB3.below HSD.out)) (Kd.C_below HR3.out (below_step HB3.below HSD.out))).mono ?_; rintro e w5 ⟨rfl, hb5⟩))
          all_goals
            go_wp2_with fail
            go_meet
            exact ⟨by rw [HP.out], HB3.step (bel_step HSD (by assumption)).out, HX3.step (bel_step HSD (by assumption)).out, ⟨HO3.out.below (bel_step HSD (by assumption)).out⟩⟩
      case rest =>
        obtain ⟨rfl, HB4, HX4, HO4⟩ := hcut
        clear b7 x7 HB3 HX3 HO3
        cases hp : prevGt (prevR l k) x
        rotate_left
        · go_wp2
          go_ret2
          exact ⟨ret_two (by rw [HE.out, if_pos hp]), HB4.below⟩
        replace HE := Aside0.mk (HE.out.trans (by rw [if_neg (by rw [hp]; decide)]))
        clear hp
        obtain ⟨Ao, co, rfl⟩ := rowLen HO4.out
        go_wp2
        go_loopw [8, 63] (fun v i w5 => ∃ (j : Nat) (st : List S39), j ≤ op.length ∧ st.length ≤ j ∧ i = .int .i64 j ∧ Aside0 ((op.filter fun o => decide (x.f1 < o.f2)) = st ++ (op.drop j).filter fun o => decide (x.f1 < o.f2)) ∧ Aside0 (OwnRow regCells 39 4 w5 wc.heap.size v st) ∧ Aside0 (Below wc.heap.size wc w5)) (fun _ i _ => op.length - (intOf i).toNat)
        case atStart => exact ⟨0, [], Nat.zero_le _, by simp, rfl, ⟨rfl⟩, ⟨OwnRow.none_ _ _ _ _ _⟩, bel_refl _⟩
        case round =>
          obtain ⟨j, st, hj, hst, rfl, HF, HS, HW⟩ := hrel
          have HX5 := HX4.step HW.out
          have HB5 := HB4.step HW.out
          have x7 := HX5.at_
          have hxs := HX5.size
          by_cases hjl : j < op.length
          · obtain ⟨ad2, o, A5, n5, c5, c6, e6, hdo, q0, q1, q2, q3⟩ := elReg HO4 HW j hjl
            obtain ⟨rfl, -, -⟩ := Value.slice.inj e6
            have HQ := Aside0.mk (HF.out.trans (by rw [hdo.out, List.filter_cons] : _ = st ++ if decide (x.f1 < o.f2) = true then o :: (op.drop (j + 1)).filter fun o => decide (x.f1 < o.f2) else (op.drop (j + 1)).filter fun o => decide (x.f1 < o.f2)))
            have hl2 := Hop.out
            clear HF hdo e6
            by_cases hlt2 : x.f1 < o.f2
            · replace HQ := Aside0.mk (HQ.out.trans (by rw [if_pos (decide_eq_true hlt2)]))
              have HI := Aside0.mk info39
              go_wp2_with (at_builtin; refine OwnRow.append (w0 := wc) wc.heap.size rfl (.tmp 72) (.tmp 74) 25 39 _ 4 56 rfl Try.underlying25 HI.out rfl (by decide) (by decide) u8 st o [.string o.f0, .int .i64 o.f1, .int .i64 o.f2, .slice A5 n5 c5] rfl (by rw [World.size_alloc]; rfl) ⟨_, _, _, rfl⟩ rfl (by simp [Value.oneCell']) (HS.out.below (below_alloc (Below.refl _ _) _)) (below_alloc HW.out _) (by simp; have := HW.out.size; omega) (by omega) ?_; intro v1 w6 hown hb1 _ _)
              go_roundw
              case rel => exact ⟨j + 1, st ++ [o], by omega, by simp; omega, by go_num, ⟨HQ.out.trans (by simp)⟩, ⟨hown⟩, ⟨hb1⟩⟩
              case measure => simp [intOf]; omega
            · replace HQ := Aside0.mk (HQ.out.trans (by rw [if_neg (by simpa using hlt2)]))
              go_wp2
              go_roundw
              case rel => exact ⟨j + 1, st, by omega, by omega, by go_num, HQ, ⟨HS.out.below (below_alloc (Below.refl _ _) _)⟩, bel_alloc HW _⟩
              case measure => simp [intOf]; omega
          · have HF2 := Aside0.mk (HF.out.trans (by rw [List.drop_eq_nil_of_le (by omega), List.filter_nil, List.append_nil]))
            clear HF
            have hstl : st.length ≤ 40 := by have := Hop.out; omega
            obtain ⟨As, cs, rfl⟩ := rowLen HS.out
            rw [HF2.out] at HE
            go_wp2
            have HB4' := HB4
            clear HF2 HO4 HB4 HX4 hst hjl hj x7 hxs
            go_loopw [79] (fun i w6 => ∃ j : Nat, j ≤ st.length ∧ i = .int .i64 j ∧ Aside0 ((st.any fun o => (o.f0.toList == x.f0.toList) && crossesB o x) = (st.drop j).any fun o => (o.f0.toList == x.f0.toList) && crossesB o x) ∧ Aside0 (Below wr.heap.size wr w6)) (fun i _ => st.length - (intOf i).toNat)
            case atStart => exact ⟨0, Nat.zero_le _, rfl, ⟨rfl⟩, bel_refl _⟩
            case round =>
              obtain ⟨j, hj, rfl, HF, HW6⟩ := hrel
              have HX6 := HX5.step HW6.out
              have HB6 := HB5.step HW6.out
              have x7 := HX6.at_
              have hxs := HX6.size
              by_cases hjl : j < st.length
              · obtain ⟨ad2, o, A5, n5, c5, c6, e6, hdo, q0, q1, q2, q3⟩ := elReg HS HW6 j hjl
                obtain ⟨rfl, -, -⟩ := Value.slice.inj e6
                have HQ := Aside0.mk (HF.out.trans (by rw [hdo.out, List.any_cons] : _ = (((o.f0.toList == x.f0.toList) && crossesB o x) || (st.drop (j + 1)).any fun o => (o.f0.toList == x.f0.toList) && crossesB o x)))
                clear HF hdo e6
                cases hn : o.f0.toList == x.f0.toList
                · go_wp2
                  go_roundw
                  case rel => exact ⟨j + 1, by omega, by go_num, ⟨HQ.out.trans (by rw [hn]; rfl)⟩, bel_alloc HW6 _⟩
                  case measure => simp [intOf]; omega
                · cases hc : crossesB o x
                  · go_wp2_with (go_at_call 76; refine (crosses_calls _ _ _ _ _).mono ?_; rintro e w7 ⟨rfl, hb7⟩)
                    go_roundw
                    case rel => exact ⟨j + 1, by omega, by go_num, ⟨HQ.out.trans (by rw [hn, hc]; rfl)⟩, bel_step (bel_alloc HW6 _) hb7⟩
                    case measure => simp [intOf]; omega
                  · go_wp2_with (go_at_call 76; refine (crosses_calls _ _ _ _ _).mono ?_; rintro e w7 ⟨rfl, hb7⟩)
                    go_ret2
                    exact ⟨ret_two (by rw [HE.out, if_pos (by rw [HQ.out, hn, hc]; rfl)]), ((HB6.alloc _).step hb7).below⟩
              · replace HE := Aside0.mk (HE.out.trans (by rw [if_neg (by rw [HF.out, List.drop_eq_nil_of_le (by omega)]; simp)]))
                clear HF
                have HI := Aside0.mk info39
                by_cases h40 : 40 < st.length + 1
                · replace HE := Aside0.mk (HE.out.trans (by rw [if_pos h40]))
                  go_wp2_with (at_builtin; refine OwnRow.append (w0 := wc) wc.heap.size rfl (.tmp 95) (.tmp 97) 25 39 _ 4 56 rfl Try.underlying25 HI.out rfl (by decide) (by decide) _ st x [.string x.f0, .int .i64 x.f1, .int .i64 x.f2, .slice A3 x.f3.length c3] rfl rfl ⟨_, _, _, rfl⟩ rfl (by simp [Value.oneCell']) (HS.out.below HW6.out) (HW.out.trans (HW6.out.mono HW.out.size)) (Nat.le_trans HW.out.size HW6.out.size) (by omega) ?_; intro v1 w8 hown hb1 _ _; obtain ⟨Av, cv, rfl⟩ := rowLen hown; generalize hn8 : (st ++ [x]).length = n8; rw [hn8] at hown; have hn9 : n8 = st.length + 1 := (by rw [← hn8]; simp); have hm8 : n8 ≤ 41 := (by omega); have h41 : 40 < n8 := (by omega); have HOW := Aside0.mk hown; clear hn8 hn9 hown)
                  go_ret2
                  exact ⟨ret_two HE.out, (HB4'.step hb1).below⟩
                · replace HE := Aside0.mk (HE.out.trans (by rw [if_neg h40]))
                  go_wp2_with (at_builtin; refine OwnRow.append (w0 := wc) wc.heap.size rfl (.tmp 95) (.tmp 97) 25 39 _ 4 56 rfl Try.underlying25 HI.out rfl (by decide) (by decide) _ st x [.string x.f0, .int .i64 x.f1, .int .i64 x.f2, .slice A3 x.f3.length c3] rfl rfl ⟨_, _, _, rfl⟩ rfl (by simp [Value.oneCell']) (HS.out.below HW6.out) (HW.out.trans (HW6.out.mono HW.out.size)) (Nat.le_trans HW.out.size HW6.out.size) (by omega) ?_; intro v1 w8 hown hb1 _ _; obtain ⟨Av, cv, rfl⟩ := rowLen hown; generalize hn8 : (st ++ [x]).length = n8; rw [hn8] at hown; have hn9 : n8 = st.length + 1 := (by rw [← hn8]; simp); have hm8 : n8 ≤ 41 := (by omega); have h41 : ¬ 40 < n8 := (by omega); have HOW := Aside0.mk hown; clear hn8 hn9 hown)
                  go_roundw
                  case rel => exact ⟨k + 1, st ++ [x], by omega, by go_num, ⟨HE.out.trans (by rw [prevR, if_neg (by omega), Nat.add_sub_cancel, hx.out])⟩, ⟨by simp; omega⟩, ⟨HOW.out.lower HB4'.below.size⟩, HB4'.step hb1⟩
                  case measure => simp [intOf]; omega
    · go_wp2
      go_ret2
      exact ⟨ret_two (by rw [HN.out, List.drop_eq_nil_of_le (by omega)]; rfl), HB.below⟩
end Go.Proofs.Ytkdgholmfnidkaa
