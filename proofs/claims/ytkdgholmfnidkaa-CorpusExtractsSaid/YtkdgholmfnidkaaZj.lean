/- The reference's nodes: what the call returns. -/
import Derived.Test.YtkdgholmfnidkaaZV
import Derived.Test.YtkdgholmfnidkaaZG
import Derived.Deep.CutBlock
import Derived.Deep.DeepCutAuto
namespace Go.Proofs.Ytkdgholmfnidkaa
open Go.RowKit Go.Proofs.YtkdgholmfnidkaaW.PrintWords Go.Proofs.YtkdgholmfnidkaaW.PrintLast Go.Proofs.YtkdgholmfnidkaaW.PrintMore

theorem rdT_at {l : List S74} {j : Int} {x : S74} (h : l[j.toNat]? = some x) : rd_T74 l j = x := by rw [rd_T74, List.getD_eq_getElem?_getD, h]; rfl
theorem rd_setN (xs : List Int) (k : Nat) (v : Int) (h : k < xs.length) : rd (xs.set k v) (k : Int) = v := by
  rw [rd, Int.toNat_natCast, List.getD_eq_getElem?_getD, List.getElem?_set_self h]; rfl
theorem lastE_pos {l : List S74} {p : Int} {j : Nat} (h : j ≠ 0) : lastE l p j = if par l ((j : Int) - 1) = p then (rd_T74 l ((j : Int) - 1)).f2 else lastE l p (j - 1) := by
  obtain ⟨m, rfl⟩ : ∃ m, j = m + 1 := ⟨j - 1, by omega⟩
  rw [lastE, Nat.add_sub_cancel, show ((m + 1 : Nat) : Int) - 1 = (m : Int) by omega]
set_option maxHeartbeats 8000000 in
set_option maxRecDepth 100000 in
theorem rNodes_calls (v0 v1 v3 v4 v5 v6 : Value) (A A1 : Option Addr) (c c1 : Nat) (ts : List S64) (l : List S74) (w : World) (hrt : Kd.C k64 w A ts.length ts) (hr : Kd.C k74 w A1 l.length l) (hok : ∀ r ∈ l, r.f0.size ≤ 140737488351232) (hS : Sep ts) :
    Calls Try.prog 43 #[.slice A1 l.length c1, .agg #[v0, v1, .slice A ts.length c, v3, v4, v5, v6]] w fun e w' => e = .returned (.tuple #[.int .i64 (nodesErr ts l).1, .int .i64 (nodesErr ts l).2]) ∧ Below w.heap.size w w' := by
  have hu30 := Try.underlying30
  have hu74 := Try.underlying74
  have hm := Kd.C_max hr
  have HR := Aside0.mk hr
  have HT := Aside0.mk hrt
  have HK := Aside0.mk hok
  have HSep := Aside0.mk hS
  clear hr hrt hok hS
  by_cases h8 : 2048 < l.length
  · have HE : Aside0 (nodesErr ts l = (0, 2)) := ⟨by rw [nodesErr, if_pos h8]⟩
    go_enter Try.func43, Try.ntmps43
    go_wp2
    go_ret2
    exact ⟨ret_two HE.out, below_alloc (Below.refl _ _) _⟩
  have H0 : Aside0 (nodesErr ts l = nodesGo ts l (List.replicate (l.length + 1) 0) (List.replicate (l.length + 1) 0) (l.drop 0) 0) := ⟨by rw [nodesErr, if_neg h8]; rfl⟩
  have hmk : ∀ W : World, (Instr.makeSlice 27 (.int .i64 (l.length : Int)) (.int .i64 (l.length : Int))).run Try.prog W = .ok (.slice (some ⟨W.heap.size, 0, none⟩) l.length l.length) (W.alloc (.cells (madeCells #[.int .i64 0] l.length) 3)) :=
    print_make (P := Try.prog) 27 3 .i64 8 Try.underlying27 info3 (by decide) l.length (by omega)
  go_enter Try.func43, Try.ntmps43
  go_wp2
  clear hmk
  have HB0 := (Bx.refl w #[v0, v1, .slice A ts.length c, v3, v4, v5, v6] 30).alloc (.cells (madeCells #[.int .i64 0] l.length) 3)
  have HD0 : Ib ((w.alloc (.cells #[v0, v1, .slice A ts.length c, v3, v4, v5, v6] 30)).alloc (.cells (madeCells #[.int .i64 0] l.length) 3)) (w.heap.size + 1) (List.replicate l.length 0) := by
    have h := Ib.made (w.alloc (.cells #[v0, v1, .slice A ts.length c, v3, v4, v5, v6] 30)) l.length
    rwa [World.size_alloc] at h
  go_loopw [20] (fun i wr => ∃ (k : Nat) (es ds dr : List Int), k ≤ l.length ∧ i = .int .i64 k ∧ Aside0 (nodesErr ts l = nodesGo ts l es ds (l.drop k) k) ∧ Aside0 (parsOk l k) ∧ Aside0 (∀ d ∈ ds, 0 ≤ d ∧ d ≤ 40) ∧ Aside0 (NdI l es ds dr k) ∧ Ib wr (w.heap.size + 1) dr ∧ Bx w #[v0, v1, .slice A ts.length c, v3, v4, v5, v6] 30 wr) (fun i _ => l.length - (intOf i).toNat)
  case atStart => exact ⟨0, _, _, _, Nat.zero_le _, rfl, H0, ⟨fun j h1 h2 => by omega⟩, ⟨fun d hd => by rw [List.eq_of_mem_replicate hd]; omega⟩, ⟨NdI.zero l⟩, HD0, HB0⟩
  case round =>
    clear H0 HB0 HD0
    obtain ⟨k, es, ds, dr, hk, rfl, HN, HP, HD, HI, Id, HB⟩ := hrel
    by_cases hlt : k < l.length
    · obtain ⟨ad, x, rfl, hd, hx, g0, g1, g2, g3⟩ := el74 HR HB.bel k hlt
      have hs0 : x.f0.size ≤ 9223372036854775807 := by have := HK.out x (List.mem_of_getElem? hx.out); omega
      have HE := Aside0.mk (HN.out.trans (by rw [hd.out, nodesGo]))
      have b7 := HB.at_
      have hbs := HB.size
      have hbw : w.heap.size + 1 < wr.heap.size := blk_lt Id.out
      clear HN
      cases hv : validName x.f0
      · go_wp2_with (go_at_call 79; refine (rValidName_calls _ _ hs0).mono ?_; rintro e w1 ⟨rfl, rfl⟩)
        go_ret2
        exact ⟨ret_two (by rw [HE.out, if_pos hv]), below_alloc HB.below _⟩
      replace HE := Aside0.mk (HE.out.trans (by rw [if_neg (by rw [hv]; decide)]))
      have HX0 := Bx.refl wr #[.string x.f0, .int .i64 x.f1, .int .i64 x.f2, .int .i64 x.f3] 74
      go_wp2_with (go_at_call 79; refine (rValidName_calls _ _ hs0).mono ?_; rintro e w1 ⟨rfl, rfl⟩)
      refine (within_calls _ _ _ _ _ _ _ _ _ _ _ _ (Kd.C_below HT.out (below_alloc HB.below _))).mono ?_
      rw [within_eq HSep.out]
      rintro e w2 ⟨rfl, hb2⟩
      have HB2 := (HB.alloc (.cells #[.string x.f0, .int .i64 x.f1, .int .i64 x.f2, .int .i64 x.f3] 74)).step hb2
      have HX2 := HX0.step hb2
      have Id2 := (Id.alloc (.cells #[.string x.f0, .int .i64 x.f1, .int .i64 x.f2, .int .i64 x.f3] 74)).below hb2
      have hws : wr.heap.size < w2.heap.size := HX2.size
      clear b7 hbs HB HX0 Id hb2
      have b7 := HB2.at_
      have x7 := HX2.at_
      cases hin : inTextB ts x.f1 x.f2
      · go_wp2
        go_ret2
        exact ⟨ret_two (by rw [HE.out, if_pos hin]), HB2.below⟩
      replace HE := Aside0.mk (HE.out.trans (by rw [if_neg (by rw [hin]; decide)]))
      have hx0 := inText_pos HSep.out hin
      have hkm : IntKind.i64.wrap ((k : Int) - 1) = (k : Int) - 1 := IntWalk.i64_in _ (by omega)
      go_wp2
      go_loopw [9] (fun a w3 => ∃ (v : Int) (n : Nat), a = .int .i64 v ∧ -1 ≤ v ∧ v < k ∧ v < n ∧ Aside0 (isAnc l x.f3 ((k : Int) - 1) = decide (ancGo l x.f3 n v = x.f3)) ∧ w3 = w2) (fun a _ => (intOf a + 1).toNat)
      case atStart => exact ⟨(k : Int) - 1, ((k : Int) - 1 + 1).toNat, rfl, by omega, by omega, by omega, ⟨rfl⟩, rfl⟩
      case round =>
        obtain ⟨v, n, rfl, hv1, hvk, hvn, HA, rfl⟩ := hrel
        by_cases hgo : 0 ≤ v ∧ v ≠ x.f3
        · obtain ⟨hv0, hvp⟩ := hgo
          have hq := HP.out v hv0 hvk
          obtain ⟨ad', y, hA, -, hy, q0, q1, q2, q3⟩ := el74 HR HB2.bel v.toNat (by omega)
          obtain rfl := Option.some.inj hA
          have hyp : Aside0 (y.f3 = par l v) := ⟨by rw [par, rdT_at hy.out]⟩
          have hyb : -1 ≤ y.f3 ∧ y.f3 < v := by rw [hyp.out]; exact hq
          clear hq
          have HA2 : Aside0 (isAnc l x.f3 ((k : Int) - 1) = decide (ancGo l x.f3 (n - 1) y.f3 = x.f3)) := ⟨by
            rw [HA.out]
            obtain ⟨m, rfl⟩ : ∃ m, n = m + 1 := ⟨n - 1, by omega⟩
            rw [ancGo, if_pos ⟨hv0, hvp⟩, hyp.out]; rfl⟩
          go_wp2
          go_roundw
          case rel => exact ⟨y.f3, n - 1, rfl, by omega, by omega, by omega, HA2, trivial⟩
          case measure => simp [intOf]; omega
        · have HA2 : Aside0 (isAnc l x.f3 ((k : Int) - 1) = decide (v = x.f3)) := ⟨by rw [HA.out, ancGo_end hgo]⟩
          clear HA
          by_cases hv0 : 0 ≤ v
          · obtain rfl : v = x.f3 := by
              by_cases e : v = x.f3
              · exact e
              · exact absurd ⟨hv0, e⟩ hgo
            replace HE := Aside0.mk (HE.out.trans (by rw [if_neg (by rw [HA2.out]; simp)]))
            obtain ⟨ad', y, hA, -, hy, q0, q1, q2, q3⟩ := el74 HR HB2.bel x.f3.toNat (by omega)
            obtain rfl := Option.some.inj hA
            have hyr : Aside0 (rd_T74 l x.f3 = y) := ⟨rdT_at hy.out⟩
            have g5 : x.f3 < (l.length : Int) := by omega
            clear HA2 hgo hy
            by_cases hb : x.f1 < y.f1
            · replace HE := Aside0.mk (HE.out.trans (by rw [if_pos ⟨hv0, .inl (by rw [hyr.out]; exact hb)⟩]))
              go_wp2
              go_ret2
              exact ⟨ret_two HE.out, (HB2.alloc _).below⟩
            by_cases hb2 : y.f2 < x.f2
            · replace HE := Aside0.mk (HE.out.trans (by rw [if_pos ⟨hv0, .inr (by rw [hyr.out]; exact hb2)⟩]))
              go_wp2
              go_ret2
              exact ⟨ret_two HE.out, (HB2.alloc _).below⟩
            replace HE := Aside0.mk (HE.out.trans (by rw [if_neg (by rw [hyr.out]; exact fun h => h.2.elim hb hb2)]))
            have HB4 := HB2.alloc (.cells #[.string y.f0, .int .i64 y.f1, .int .i64 y.f2, .int .i64 y.f3] 74)
            have HX4 := HX2.alloc (.cells #[.string y.f0, .int .i64 y.f1, .int .i64 y.f2, .int .i64 y.f3] 74)
            have Id4 := Id2.alloc (.cells #[.string y.f0, .int .i64 y.f1, .int .i64 y.f2, .int .i64 y.f3] 74)
            have hq1 := Id4.at_ x.f3 hv0 (by rw [HI.out.lr]; omega)
            have hq2 := Id4.at_ (k : Int) (by omega) (by rw [HI.out.lr]; omega)
            rw [Int.toNat_natCast] at hq2
            have HB5 := HB4.set_ (g := w.heap.size + 1) (j := k) (by omega) (.int .i64 (rd dr x.f3))
            have Id5 := Id4.set_ k (rd dr x.f3)
            have Xb5 := blk_far HX4.blk (p := ⟨w.heap.size + 1, k, none⟩) (by simp; omega) (.int .i64 (rd dr x.f3))
            have hdl : Aside0 ((dr.set k (rd dr x.f3)).length = l.length) := ⟨by rw [List.length_set]; exact HI.out.lr⟩
            have hdk : Aside0 (rd (dr.set k (rd dr x.f3)) (k : Int) = rd ds (x.f3 + 1)) := ⟨by rw [rd_setN _ _ _ (by rw [HI.out.lr]; exact hlt)]; exact HI.out.par_ hv0 hvk⟩
            have hds : Aside0 ((dr.set k (rd dr x.f3)).set k (rd ds (x.f3 + 1) + 1) = dr.set k (rd ds (x.f3 + 1) + 1)) := ⟨by rw [List.set_set]⟩
            clear HB4 HX4 Id4
            go_upto_region 21 with fail
            generalize World.setCell _ ⟨w.heap.size + 1, k, none⟩ (.int .i64 (rd dr x.f3)) = W5 at HB5 Id5 Xb5 ⊢
            have x7 := blk_cell Xb5
            go_upto_block 5 with fail
            go_cut [11] (fun _ w6 => Aside0 (¬ x.f1 < rd es (x.f3 + 1)) ∧ Aside0 (Below W5.heap.size W5 w6))
            case first =>
              go_wp2_with fail
              go_loopw [11] (fun a w6 => ∃ j : Nat, j ≤ k ∧ a = .int .i64 ((j : Int) - 1) ∧ Aside0 (rd es (x.f3 + 1) = lastE l x.f3 j) ∧ Aside0 (Below W5.heap.size W5 w6)) (fun a _ => (intOf a + 1).toNat)
              case atStart => exact ⟨k, Nat.le_refl _, rfl, ⟨HI.out.es_ x.f3 (by omega) (by omega)⟩, bel_refl _⟩
              case round =>
                obtain ⟨j, hj, rfl, HL, HW⟩ := hrel
                clear x7
                have x7 := blk_cell (blk_below Xb5 HW.out)
                by_cases hj0 : j = 0
                · have HF : Aside0 (¬ x.f1 < rd es (x.f3 + 1)) := ⟨by rw [HL.out, hj0, lastE]; omega⟩
                  clear HL
                  subst hj0
                  have hjd : decide ((0 : Int) ≤ ((0 : Nat) : Int) - 1) = false := by decide
                  go_wp2_with fail
                  go_meet
                  exact ⟨HF, HW⟩
                · have HB6 := HB5.step HW.out
                  have hjm : IntKind.i64.wrap ((j : Int) - 1) = (j : Int) - 1 := IntWalk.i64_in _ (by omega)
                  have hjm2 : IntKind.i64.wrap ((j : Int) - 1 - 1) = (j : Int) - 1 - 1 := IntWalk.i64_in _ (by omega)
                  obtain ⟨ad', y, hA, -, hy, q0, q1, q2, q3⟩ := el74 HR HB6.bel (j - 1) (by omega)
                  obtain rfl := Option.some.inj hA
                  have hjt : ((j : Int) - 1).toNat = j - 1 := by omega
                  have hyj : Aside0 (rd_T74 l ((j : Int) - 1) = y) := ⟨rdT_at (by rw [hjt]; exact hy.out)⟩
                  have HL2 := Aside0.mk (HL.out.trans (by rw [lastE_pos hj0, par, hyj.out] : _ = if y.f3 = x.f3 then y.f2 else lastE l x.f3 (j - 1)))
                  have hj1 : (1 : Int) ≤ (j : Int) := by omega
                  have hj2 : (0 : Int) ≤ (j : Int) - 1 := by omega
                  have hj3 : (j : Int) - 1 < (l.length : Int) := by omega
                  clear HL hy hyj
                  cases he : y.f3 == x.f3
                  · replace HL2 := Aside0.mk (HL2.out.trans (by rw [if_neg (by simpa using he)]))
                    go_wp2_with fail
                    go_quiet (fail)
                    go_wp2_with fail
                    go_roundw
                    case rel => exact ⟨j - 1, by omega, by rw [show ((j - 1 : Nat) : Int) = (j : Int) - 1 by omega], HL2, bel_drewN HW _⟩
                    case measure => simp [intOf]; omega
                  · replace HL2 := Aside0.mk (HL2.out.trans (by rw [if_pos (by simpa using he)]))
                    by_cases hxy : x.f1 < y.f2
                    · go_wp2_with fail
                      go_quiet (fail)
                      go_wp2_with fail
                      go_quiet (fail)
                      go_wp2_with fail
                      go_ret2
                      exact ⟨ret_two (by rw [HE.out, if_pos (by rw [HL2.out]; exact hxy)]), (HB5.step (bel_drewN (bel_drewN HW _) _).out).below⟩
                    · have HF : Aside0 (¬ x.f1 < rd es (x.f3 + 1)) := ⟨by rw [HL2.out]; exact hxy⟩
                      go_wp2_with fail
                      go_quiet (fail)
                      go_wp2_with fail
                      go_quiet (fail)
                      go_wp2_with fail
                      go_meet
                      exact ⟨HF, bel_drewN (bel_drewN HW _) _⟩
            case rest =>
              obtain ⟨HF, HW⟩ := hcut
              replace HE := Aside0.mk (HE.out.trans (by rw [if_neg HF.out]))
              have HB6 := HB5.step HW.out
              have Id6 := Id5.below HW.out
              clear HB5 Id5 x7
              have hq := Id6.at_ (k : Int) (by omega) (by rw [hdl.out]; omega)
              rw [hdk.out, Int.toNat_natCast] at hq
              have hdm := HD.out (rd ds (x.f3 + 1)) (rd_mem ds _ (by omega) (by have := HI.out.ld; omega))
              have hdw : IntKind.i64.wrap (rd ds (x.f3 + 1) + 1) = rd ds (x.f3 + 1) + 1 := IntWalk.i64_in _ (by omega)
              have HB7 := HB6.set_ (g := w.heap.size + 1) (j := k) (by omega) (.int .i64 (rd ds (x.f3 + 1) + 1))
              have Id7 := Id6.set_ k (rd ds (x.f3 + 1) + 1)
              rw [hds.out] at Id7
              clear hds hdk hdl
              go_upto_region 28 with fail
              generalize World.setCell _ ⟨w.heap.size + 1, k, none⟩ (.int .i64 (rd ds (x.f3 + 1) + 1)) = W7 at HB7 Id7 ⊢
              have hq7 := Id7.at_ (k : Int) (by omega) (by rw [List.length_set, HI.out.lr]; omega)
              rw [rd_setN _ _ _ (by rw [HI.out.lr]; exact hlt), Int.toNat_natCast] at hq7
              have hpx : Aside0 (par l (k : Int) = x.f3) := ⟨par_at hx.out⟩
              by_cases h40 : 40 < rd ds (x.f3 + 1) + 1
              · go_wp2
                go_ret2
                exact ⟨ret_two (by rw [HE.out, if_pos h40]), HB7.below⟩
              · go_wp2
                go_roundw
                case rel => exact ⟨k + 1, es.set (x.f3 + 1).toNat x.f2, ds.set (k + 1) (rd ds (x.f3 + 1) + 1), dr.set k (rd ds (x.f3 + 1) + 1), by omega, by go_num, ⟨by rw [HE.out, if_neg h40]⟩, ⟨parsOk_succ HP.out (by rw [hpx.out]; omega)⟩, ⟨set_bound HD.out (by omega)⟩, ⟨HI.out.next hlt (by rw [hpx.out]) (by omega) (by omega) (by rw [rdT_at (j := (k : Int)) (by rw [Int.toNat_natCast]; exact hx.out)])⟩, Id7, HB7⟩
                case measure => simp [intOf]; omega
          · by_cases hp1 : x.f3 = -1
            · replace HE := Aside0.mk (HE.out.trans (by rw [if_neg (by rw [HA2.out]; simp; omega), if_neg (by omega)]))
              have hpb : (x.f3 != -1) = false := by rw [bne_eq_false_iff_eq]; exact hp1
              have HB5 := HB2
              have Id5 := Id2
              have Xb5 := HX2.blk
              have hp0 : -1 ≤ x.f3 ∧ x.f3 < 0 := by omega
              have hdl : Aside0 (dr.length = l.length) := ⟨HI.out.lr⟩
              have hdk : Aside0 (rd dr (k : Int) = rd ds (x.f3 + 1)) := ⟨by rw [HI.out.dz k (Nat.le_refl _), hp1]; exact HI.out.d0.symm⟩
              have hds : Aside0 (dr.set k (rd ds (x.f3 + 1) + 1) = dr.set k (rd ds (x.f3 + 1) + 1)) := ⟨rfl⟩
              clear HA2 hgo hp1
              go_upto_region 21 with fail
              generalize hW5 : wr = W5 at HB5 Id5 Xb5 ⊢
              clear hW5
              have x7 := blk_cell Xb5
              go_upto_block 5 with fail
              go_cut [11] (fun _ w6 => Aside0 (¬ x.f1 < rd es (x.f3 + 1)) ∧ Aside0 (Below W5.heap.size W5 w6))
              case first =>
                go_wp2_with fail
                go_loopw [11] (fun a w6 => ∃ j : Nat, j ≤ k ∧ a = .int .i64 ((j : Int) - 1) ∧ Aside0 (rd es (x.f3 + 1) = lastE l x.f3 j) ∧ Aside0 (Below W5.heap.size W5 w6)) (fun a _ => (intOf a + 1).toNat)
                case atStart => exact ⟨k, Nat.le_refl _, rfl, ⟨HI.out.es_ x.f3 (by omega) (by omega)⟩, bel_refl _⟩
                case round =>
                  obtain ⟨j, hj, rfl, HL, HW⟩ := hrel
                  clear x7
                  have x7 := blk_cell (blk_below Xb5 HW.out)
                  by_cases hj0 : j = 0
                  · have HF : Aside0 (¬ x.f1 < rd es (x.f3 + 1)) := ⟨by rw [HL.out, hj0, lastE]; omega⟩
                    clear HL
                    subst hj0
                    have hjd : decide ((0 : Int) ≤ ((0 : Nat) : Int) - 1) = false := by decide
                    go_wp2_with fail
                    go_meet
                    exact ⟨HF, HW⟩
                  · have HB6 := HB5.step HW.out
                    have hjm : IntKind.i64.wrap ((j : Int) - 1) = (j : Int) - 1 := IntWalk.i64_in _ (by omega)
                    have hjm2 : IntKind.i64.wrap ((j : Int) - 1 - 1) = (j : Int) - 1 - 1 := IntWalk.i64_in _ (by omega)
                    obtain ⟨ad', y, hA, -, hy, q0, q1, q2, q3⟩ := el74 HR HB6.bel (j - 1) (by omega)
                    obtain rfl := Option.some.inj hA
                    have hjt : ((j : Int) - 1).toNat = j - 1 := by omega
                    have hyj : Aside0 (rd_T74 l ((j : Int) - 1) = y) := ⟨rdT_at (by rw [hjt]; exact hy.out)⟩
                    have HL2 := Aside0.mk (HL.out.trans (by rw [lastE_pos hj0, par, hyj.out] : _ = if y.f3 = x.f3 then y.f2 else lastE l x.f3 (j - 1)))
                    have hj1 : (1 : Int) ≤ (j : Int) := by omega
                    have hj2 : (0 : Int) ≤ (j : Int) - 1 := by omega
                    have hj3 : (j : Int) - 1 < (l.length : Int) := by omega
                    clear HL hy hyj
                    cases he : y.f3 == x.f3
                    · replace HL2 := Aside0.mk (HL2.out.trans (by rw [if_neg (by simpa using he)]))
                      go_wp2_with fail
                      go_quiet (fail)
                      go_wp2_with fail
                      go_roundw
                      case rel => exact ⟨j - 1, by omega, by rw [show ((j - 1 : Nat) : Int) = (j : Int) - 1 by omega], HL2, bel_drewN HW _⟩
                      case measure => simp [intOf]; omega
                    · replace HL2 := Aside0.mk (HL2.out.trans (by rw [if_pos (by simpa using he)]))
                      by_cases hxy : x.f1 < y.f2
                      · go_wp2_with fail
                        go_quiet (fail)
                        go_wp2_with fail
                        go_quiet (fail)
                        go_wp2_with fail
                        go_ret2
                        exact ⟨ret_two (by rw [HE.out, if_pos (by rw [HL2.out]; exact hxy)]), (HB5.step (bel_drewN (bel_drewN HW _) _).out).below⟩
                      · have HF : Aside0 (¬ x.f1 < rd es (x.f3 + 1)) := ⟨by rw [HL2.out]; exact hxy⟩
                        go_wp2_with fail
                        go_quiet (fail)
                        go_wp2_with fail
                        go_quiet (fail)
                        go_wp2_with fail
                        go_meet
                        exact ⟨HF, bel_drewN (bel_drewN HW _) _⟩
              case rest =>
                obtain ⟨HF, HW⟩ := hcut
                replace HE := Aside0.mk (HE.out.trans (by rw [if_neg HF.out]))
                have HB6 := HB5.step HW.out
                have Id6 := Id5.below HW.out
                clear HB5 Id5 x7
                have hq := Id6.at_ (k : Int) (by omega) (by rw [hdl.out]; omega)
                rw [hdk.out, Int.toNat_natCast] at hq
                have hdm := HD.out (rd ds (x.f3 + 1)) (rd_mem ds _ (by omega) (by have := HI.out.ld; omega))
                have hdw : IntKind.i64.wrap (rd ds (x.f3 + 1) + 1) = rd ds (x.f3 + 1) + 1 := IntWalk.i64_in _ (by omega)
                have HB7 := HB6.set_ (g := w.heap.size + 1) (j := k) (by omega) (.int .i64 (rd ds (x.f3 + 1) + 1))
                have Id7 := Id6.set_ k (rd ds (x.f3 + 1) + 1)
                rw [hds.out] at Id7
                clear hds hdk hdl
                go_upto_region 28 with fail
                generalize World.setCell _ ⟨w.heap.size + 1, k, none⟩ (.int .i64 (rd ds (x.f3 + 1) + 1)) = W7 at HB7 Id7 ⊢
                have hq7 := Id7.at_ (k : Int) (by omega) (by rw [List.length_set, HI.out.lr]; omega)
                rw [rd_setN _ _ _ (by rw [HI.out.lr]; exact hlt), Int.toNat_natCast] at hq7
                have hpx : Aside0 (par l (k : Int) = x.f3) := ⟨par_at hx.out⟩
                by_cases h40 : 40 < rd ds (x.f3 + 1) + 1
                · go_wp2
                  go_ret2
                  exact ⟨ret_two (by rw [HE.out, if_pos h40]), HB7.below⟩
                · go_wp2
                  go_roundw
                  case rel => exact ⟨k + 1, es.set (x.f3 + 1).toNat x.f2, ds.set (k + 1) (rd ds (x.f3 + 1) + 1), dr.set k (rd ds (x.f3 + 1) + 1), by omega, by go_num, ⟨by rw [HE.out, if_neg h40]⟩, ⟨parsOk_succ HP.out (by rw [hpx.out]; omega)⟩, ⟨set_bound HD.out (by omega)⟩, ⟨HI.out.next hlt (by rw [hpx.out]) (by omega) (by omega) (by rw [rdT_at (j := (k : Int)) (by rw [Int.toNat_natCast]; exact hx.out)])⟩, Id7, HB7⟩
                  case measure => simp [intOf]; omega
            · replace HE := Aside0.mk (HE.out.trans (by rw [if_pos (by rw [HA2.out]; exact decide_eq_false (by omega))]))
              go_wp2
              go_ret2
              exact ⟨ret_two HE.out, HB2.below⟩
    · go_wp2
      go_ret2
      exact ⟨ret_two (by rw [HN.out, List.drop_eq_nil_of_le (by omega)]; rfl), HB.below⟩
end Go.Proofs.Ytkdgholmfnidkaa
