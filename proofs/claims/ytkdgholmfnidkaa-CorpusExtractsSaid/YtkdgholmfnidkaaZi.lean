/- The reference's regions and rings: what each call returns. -/
import Derived.Test.YtkdgholmfnidkaaZV
import Derived.Test.YtkdgholmfnidkaaZG
import Derived.Deep.RegionHeld3
namespace Go.Proofs.Ytkdgholmfnidkaa
open Go.RowKit Go.Proofs.YtkdgholmfnidkaaW.PrintWords Go.Proofs.YtkdgholmfnidkaaW.PrintLast Go.Proofs.YtkdgholmfnidkaaW.PrintMore

set_option maxHeartbeats 1000000 in
theorem rCyclic_calls (A : Option Addr) (c : Nat) (hs : List Int) (i : Int) (w : World) (hr : (Kd.int .i64).C w A hs.length hs) (h0 : 0 ≤ i) (h1 : i < hs.length) :
    Calls Try.prog 83 #[.slice A hs.length c, .int .i64 i] w fun e w' => e = .returned (.bool (cycR hs i hs.length i)) ∧ w = w' := by
  have hm := Kd.C_max hr
  have HR := Aside0.mk hr
  clear hr
  go_enter Try.func83, Try.ntmps83
  go_wp2
  go_loop [5, 9] (fun a j => ∃ (k : Nat) (v : Int), k ≤ hs.length ∧ j = .int .i64 k ∧ a = .int .i64 v ∧ 0 ≤ v ∧ v < hs.length ∧ Aside0 (cycR hs i hs.length i = cycR hs i (hs.length - k) v)) (fun _ j => hs.length - (intOf j).toNat)
  case atStart => exact ⟨0, i, Nat.zero_le _, rfl, rfl, h0, h1, ⟨rfl⟩⟩
  case round =>
    obtain ⟨k, v, hk, rfl, rfl, hv0, hv1, HN⟩ := hrel
    by_cases hlt : k < hs.length
    · obtain ⟨ad, y, rfl, -, hx, g0⟩ := elI HR ⟨Below.refl _ _⟩ v.toNat (by omega)
      have hy : Aside0 (rd hs v = y) := ⟨by rw [rd, List.getD_eq_getElem?_getD, hx.out]; rfl⟩
      have HE := Aside0.mk (HN.out.trans (by rw [show hs.length - k = (hs.length - (k + 1)) + 1 by omega, cycR, hy.out]))
      clear HN hx hy
      by_cases a1 : y < 0
      · go_wp2
        go_ret
        exact ⟨ret_bool (by rw [HE.out, if_pos (.inl a1)]), rfl⟩
      by_cases a2 : (hs.length : Int) ≤ y
      · go_wp2
        go_ret
        exact ⟨ret_bool (by rw [HE.out, if_pos (.inr a2)]), rfl⟩
      replace HE := Aside0.mk (HE.out.trans (by rw [if_neg (by omega)]))
      cases a3 : y == i
      · go_wp2
        go_round
        case rel => exact ⟨k + 1, y, by omega, by go_num, rfl, by omega, by omega, ⟨by rw [HE.out, if_neg (by simpa using a3)]⟩⟩
        case measure => simp [intOf]; omega
      · go_wp2
        go_ret
        exact ⟨ret_bool (by rw [HE.out, if_pos (by simpa using a3)]), rfl⟩
    · go_wp2
      go_ret
      exact ⟨ret_bool (by rw [HN.out, show hs.length - k = 0 by omega]; rfl), rfl⟩
def crossP (x o : S39) : Bool := (o.f0.toList == x.f0.toList) && crossesB o x
theorem crossP_self (x : S39) : crossP x x = false := by
  have : crossesB x x = false := decide_eq_false (by omega)
  rw [crossP, this, Bool.and_false]
theorem crossP_not {x o : S39} (h : ¬ (o.f1 < x.f1 ∧ x.f1 < o.f2 ∧ o.f2 < x.f2)) : crossP x o = false := by
  have : crossesB o x = false := decide_eq_false h
  rw [crossP, this, Bool.and_false]
theorem crossP_ne {x o : S39} (h : (o.f0.toList == x.f0.toList) = false) : crossP x o = false := by rw [crossP, h, Bool.false_and]
theorem crossP_yes {x o : S39} (h : (o.f0.toList == x.f0.toList) = true) (h2 : o.f1 < x.f1 ∧ x.f1 < o.f2 ∧ o.f2 < x.f2) : crossP x o = true := by
  have : crossesB o x = true := decide_eq_true h2
  rw [crossP, h, this]; rfl
def openP (x o : S39) : Bool := decide (x.f1 < o.f2)
/-- The regions looked at so far: how many contain the begin, and that none crosses. -/
structure Lk (l : List S39) (x : S39) (j : Nat) (q : Nat) : Prop where
  n : ((l.take j).filter (openP x)).length = q
  c : ((l.take j).filter (openP x)).any (crossP x) = false
theorem Lk.zero (l : List S39) (x : S39) : Lk l x 0 0 := ⟨rfl, rfl⟩
theorem Lk.yes {l : List S39} {x y : S39} {j q : Nat} (h : Lk l x j q) (hy : l[j]? = some y) (ho : x.f1 < y.f2) (hc : crossP x y = false) : Lk l x (j + 1) (q + 1) := by
  have e : (l.take (j + 1)).filter (openP x) = (l.take j).filter (openP x) ++ [y] := by
    rw [take_snoc hy, List.filter_append, List.filter_cons_of_pos (by simpa [openP] using ho)]; rfl
  exact ⟨by rw [e, List.length_append, h.n]; rfl, by rw [e, List.any_append, h.c]; simp [hc]⟩
theorem Lk.no {l : List S39} {x y : S39} {j q : Nat} (h : Lk l x j q) (hy : l[j]? = some y) (ho : ¬ x.f1 < y.f2) : Lk l x (j + 1) q := by
  have e : (l.take (j + 1)).filter (openP x) = (l.take j).filter (openP x) := by
    rw [take_snoc hy, List.filter_append, List.filter_cons_of_neg (by simpa [openP] using ho)]; simp
  exact ⟨by rw [e, h.n], by rw [e, h.c]⟩
/-- A crossing region among those before. -/
theorem any_cross {l : List S39} {x y : S39} {j k : Nat} (hy : l[j]? = some y) (hj : j < k) (ho : x.f1 < y.f2) (hc : crossP x y = true) : ((l.take k).filter (openP x)).any (crossP x) = true := by
  rw [List.any_eq_true]
  refine ⟨y, List.mem_filter.2 ⟨?_, by simpa [openP] using ho⟩, hc⟩
  obtain ⟨h1, h2⟩ := List.getElem?_eq_some_iff.1 hy
  rw [← h2]
  exact List.mem_take_iff_getElem.2 ⟨j, by omega, rfl⟩
theorem Lk.end_ {l : List S39} {x : S39} {k q : Nat} (h : Lk l x (k + 1) q) (hx : l[k]? = some x) (hlt : x.f1 < x.f2) :
    ((l.take k).filter (openP x)).length + 1 = q ∧ ((l.take k).filter (openP x)).any (crossP x) = false := by
  have e : (l.take (k + 1)).filter (openP x) = (l.take k).filter (openP x) ++ [x] := by
    rw [take_snoc hx, List.filter_append, List.filter_cons_of_pos (by simpa [openP] using hlt)]; rfl
  have h1 := h.n
  have h2 := h.c
  rw [e] at h1 h2
  rw [List.length_append] at h1
  rw [List.any_append, Bool.or_eq_false_iff] at h2
  exact ⟨h1, h2.1⟩
set_option maxHeartbeats 8000000 in
set_option maxRecDepth 100000 in
theorem rRegions_calls (v0 v1 v4 v5 v6 : Value) (A A1 : Option Addr) (c c1 : Nat) (ts : List S64) (l : List S39) (w : World) (hrt : Kd.C k64 w A ts.length ts) (hr : Kd.C k39 w A1 l.length l) (hlc : l.length ≤ c1) (hok : ∀ r ∈ l, okR r) (hS : Sep ts) :
    Calls Try.prog 42 #[.agg #[v0, v1, .slice A ts.length c, .slice A1 l.length c1, v4, v5, v6]] w fun e w' => e = .returned (.tuple #[.int .i64 (regsErr ts l).1, .int .i64 (regsErr ts l).2]) ∧ Below w.heap.size w w' := by
  have hu30 := Try.underlying30
  have hu39 := Try.underlying39
  have hm := Kd.C_max hr
  have HR := Aside0.mk hr
  have HT := Aside0.mk hrt
  have HK := Aside0.mk hok
  have HS := Aside0.mk hS
  clear hr hrt hok hS
  by_cases h8 : 1024 < l.length
  · have HE : Aside0 (regsErr ts l = (0, 2)) := ⟨by rw [regsErr, if_pos h8]⟩
    go_enter Try.func42, Try.ntmps42
    go_wp2
    go_ret2
    exact ⟨ret_two HE.out, below_alloc (Below.refl _ _) _⟩
  have H0 : Aside0 (regsErr ts l = regGo ts [] (prevR l 0) (l.drop 0) 0) := ⟨by rw [regsErr, if_neg h8]; rfl⟩
  go_enter Try.func42, Try.ntmps42
  go_wp2
  go_loopw [17] (fun i wr => ∃ (k : Nat) (op : List S39), k ≤ l.length ∧ i = .int .i64 k ∧ Aside0 (regsErr ts l = regGo ts op (prevR l k) (l.drop k) k) ∧ Aside0 (Srt l k op) ∧ Bx w #[v0, v1, .slice A ts.length c, .slice A1 l.length c1, v4, v5, v6] 30 wr) (fun i _ => l.length - (intOf i).toNat)
  case atStart => exact ⟨0, [], Nat.zero_le _, rfl, H0, ⟨Srt.zero l⟩, Bx.refl _ _ _⟩
  case round =>
    clear H0
    obtain ⟨k, op, hk, rfl, HN, HO, HB⟩ := hrel
    by_cases hlt : k < l.length
    · obtain ⟨ad, x, A3, c3, rfl, hd, hx, g0, g1, g2, g3, HL3, HR3⟩ := el39 HR HB.bel k hlt
      have hox := HK.out x (List.mem_of_getElem? hx.out)
      have hs0 : x.f0.size ≤ 9223372036854775807 := by have := hox.1; omega
      have hs3 := Aside0.mk hox.2
      have HE := Aside0.mk (HN.out.trans (by rw [hd.out, regGo]))
      have b7 := HB.at_
      have hbs := HB.size
      clear HN hox
      cases hv : validName x.f0
      · go_wp2_with (go_at_call 79; refine (rValidName_calls _ _ hs0).mono ?_; rintro e w1 ⟨rfl, rfl⟩)
        go_ret2
        exact ⟨ret_two (by rw [HE.out, if_pos hv]), below_alloc HB.below _⟩
      replace HE := Aside0.mk (HE.out.trans (by rw [if_neg (by rw [hv]; decide)]))
      have HX0 := Bx.refl wr #[.string x.f0, .int .i64 x.f1, .int .i64 x.f2, .slice A3 x.f3.length c3] 39
      go_wp2_with (go_at_call 79; refine (rValidName_calls _ _ hs0).mono ?_; rintro e w1 ⟨rfl, rfl⟩)
      refine (within_calls _ _ _ _ _ _ _ _ _ _ _ _ (Kd.C_below HT.out (below_alloc HB.below _))).mono ?_
      rw [within_eq HS.out]
      rintro e w2 ⟨rfl, hb2⟩
      have HB2 := (HB.alloc (.cells #[.string x.f0, .int .i64 x.f1, .int .i64 x.f2, .slice A3 x.f3.length c3] 39)).step hb2
      have HX2 := HX0.step hb2
      clear b7 hbs HB HX0 hb2
      have b7 := HB2.at_
      have x7 := HX2.at_
      cases hin : inTextB ts x.f1 x.f2
      · go_wp2
        go_ret2
        exact ⟨ret_two (by rw [HE.out, if_pos hin]), HB2.below⟩
      replace HE := Aside0.mk (HE.out.trans (by rw [if_neg (by rw [hin]; decide)]))
      have hx12 := (inText_pos HS.out hin).2
      go_wp2_with fail
      refine (rPairs_calls _ _ _ _ (Kd.C_below HR3.out HB2.below) hs3.out).mono ?_
      rintro e w3 ⟨rfl, hb3⟩
      have HB3 := HB2.step hb3
      have HX3 := HX2.step hb3
      clear b7 x7 HB2 HX2 hb3
      cases hpe : pairsErr x.f3 != 0
      rotate_left
      · go_wp2
        go_ret2
        exact ⟨ret_two (by rw [HE.out, if_pos hpe]), HB3.below⟩
      replace HE := Aside0.mk (HE.out.trans (by rw [if_neg (by rw [hpe]; decide)]))
      have b7 := HB3.at_
      have x7 := HX3.at_
      go_upto_region 13 with fail
      go_cut [56] (fun v w4 => v = .bool (prevGt (prevR l k) x) ∧ Bx w #[v0, v1, .slice A ts.length c, .slice (some ad) l.length c1, v4, v5, v6] 30 w4 ∧ Bx wr #[.string x.f0, .int .i64 x.f1, .int .i64 x.f2, .slice A3 x.f3.length c3] 39 w4)
      case first =>
        by_cases hk0 : k = 0
        · have hg : decide ((0 : Int) < (k : Int)) = false := by simp; omega
          have hgn : decide (0 < k) = false := by simp; omega
          have HP : Aside0 (prevGt (prevR l k) x = false) := ⟨by rw [prevR, if_pos hk0]; rfl⟩
          clear hk0
          go_quiet (fail)
          go_wp2_with fail
          go_meet
          exact ⟨by rw [HP.out], HB3.drewN _, HX3.drewN _⟩
        · have hg : decide ((0 : Int) < (k : Int)) = true := by simp; omega
          have hgn : decide (0 < k) = true := by simp; omega
          obtain ⟨ad', y, A4, c4, hA, -, hy, q0, q1, q2, q3, HL4, HR4⟩ := el39 HR HB3.bel (k - 1) (by omega)
          obtain rfl := Option.some.inj hA
          have HP : Aside0 (prevGt (prevR l k) x = decide (0 < cmpR y x)) := ⟨by rw [prevR, if_neg hk0, hy.out]; rfl⟩
          have g2 : ((k : Int) - 1).toNat = k - 1 := by omega
          have g3 : IntKind.i64.wrap ((k : Int) - 1) = (k : Int) - 1 := IntWalk.i64_in _ (by omega)
          have g4 : (0 : Int) ≤ (k : Int) - 1 := by omega
          have g5 : ((k : Int) - 1) < (l.length : Int) := by omega
          have g6 : (1 : Int) ≤ (k : Int) := by omega
          have p3 := (HB3.at_ 3).trans rfl
          have r0 := (HX3.at_ 0).trans rfl
          have r1 := (HX3.at_ 1).trans rfl
          have r2 := (HX3.at_ 2).trans rfl
          have r3 := (HX3.at_ 3).trans rfl
          have HS := bel_refl w3
          have HSD := bel_drew HS
          clear b7 x7 hk0
          go_region_held3 (fun w' => w'.cell? ⟨w.heap.size, 3, none⟩ = some (.slice (some ad) l.length c1) ∧
            w'.cell? (ad.add ((k - 1) * 4)) = some (.string y.f0) ∧ w'.cell? ⟨(ad.add ((k - 1) * 4)).block, (ad.add ((k - 1) * 4)).off + 1, none⟩ = some (.int .i64 y.f1) ∧ w'.cell? ⟨(ad.add ((k - 1) * 4)).block, (ad.add ((k - 1) * 4)).off + 2, none⟩ = some (.int .i64 y.f2) ∧ w'.cell? ⟨(ad.add ((k - 1) * 4)).block, (ad.add ((k - 1) * 4)).off + 3, none⟩ = some (.slice A4 y.f3.length c4) ∧
            w'.cell? ⟨wr.heap.size, 0, none⟩ = some (.string x.f0) ∧ w'.cell? ⟨wr.heap.size, 1, none⟩ = some (.int .i64 x.f1) ∧ w'.cell? ⟨wr.heap.size, 2, none⟩ = some (.int .i64 x.f2) ∧ w'.cell? ⟨wr.heap.size, 3, none⟩ = some (.slice A3 x.f3.length c3) ∧ Aside0 (Below w3.heap.size w3 w'))
            (refine ⟨?_, ?_, ?_, ?_, ?_, ?_, ?_, ?_, ?_, ?_⟩ <;> first | go_keep | exact bel_drew (by assumption) | exact bel_step HSD (by assumption) | exact pw_cell_below (by assumption) (by assumption))
            (first | (go_at_call 19; refine (rCompareRegions_calls y x A4 A3 c4 c3 _ (Kd.C_below HR4.out (below_step HB3.below HSD.out)) (Kd.C_below HR3.out (below_step HB3.below HSD.out))).mono ?_; rintro e w5 ⟨rfl, hb5⟩))
          all_goals
            go_wp2_with fail
            go_meet
            exact ⟨by rw [HP.out], HB3.step (bel_step HSD (by assumption)).out, HX3.step (bel_step HSD (by assumption)).out⟩
      case rest =>
        obtain ⟨rfl, HB4, HX4⟩ := hcut
        clear b7 x7 HB3 HX3
        cases hp : prevGt (prevR l k) x
        rotate_left
        · go_wp2
          go_ret2
          exact ⟨ret_two (by rw [HE.out, if_pos hp]), HB4.below⟩
        replace HE := Aside0.mk (HE.out.trans (by rw [if_neg (by rw [hp]; decide)]))
        obtain ⟨hop, hle⟩ := HO.out.at_ hp (Nat.le_of_lt hlt)
        replace HE := Aside0.mk (HE.out.trans (by rw [hop]; rfl : _ = if (((l.take k).filter (openP x)).any (crossP x)) = true then ((k : Int), (13 : Int)) else if 40 < ((l.take k).filter (openP x)).length + 1 then ((k : Int), 2) else regGo ts (((l.take k).filter (openP x)) ++ [x]) (some x) (l.drop (k + 1)) (k + 1)))
        have HLE := Aside0.mk hle
        have HNX := Aside0.mk (Srt.next hx.out hx12 hle)
        have hpr : Aside0 (prevR l (k + 1) = some x) := ⟨by rw [prevR, if_neg (by omega), Nat.add_sub_cancel]; exact hx.out⟩
        clear hp hop hle HO
        have b7 := HB4.at_
        have x7 := HX4.at_
        go_wp2
        go_loopw [7, 64] (fun d i w5 => ∃ (j q : Nat), j ≤ k + 1 ∧ q ≤ j ∧ d = .int .i64 q ∧ i = .int .i64 j ∧ Aside0 (Lk l x j q) ∧ Aside0 (Below wc.heap.size wc w5)) (fun _ i _ => k + 1 - (intOf i).toNat)
        case atStart => exact ⟨0, 0, Nat.zero_le _, Nat.le_refl _, rfl, rfl, ⟨Lk.zero l x⟩, bel_refl _⟩
        case round =>
          clear b7 x7
          obtain ⟨j, q, hj, hq, rfl, rfl, HL, HW⟩ := hrel
          have HX5 := HX4.step HW.out
          have HB5 := HB4.step HW.out
          have x7 := HX5.at_
          have hxs := HX5.size
          by_cases hjl : j < k + 1
          · obtain ⟨ad', y, A5, c5, hA, -, hy, q0, q1, q2, q3, -, -⟩ := el39 HR HB5.bel j (by omega)
            obtain rfl := Option.some.inj hA
            have hyx : y.f1 ≤ x.f1 := by
              by_cases hjk : j < k
              · have h1 := hy.out
                obtain ⟨h2, h3⟩ := List.getElem?_eq_some_iff.1 h1
                rw [← h3]
                exact HLE.out _ (List.mem_take_iff_getElem.2 ⟨j, by omega, rfl⟩)
              · have : j = k := by omega
                subst this
                rw [Option.some.inj (hx.out.symm.trans hy.out)]; exact Int.le_refl _
            by_cases ho : x.f1 < y.f2
            rotate_left
            · have HL2 := Aside0.mk (HL.out.no hy.out ho)
              go_wp2
              all_goals
                go_roundw
                case rel => exact ⟨j + 1, q, by omega, by omega, rfl, by go_num, HL2, bel_alloc HW _⟩
                case measure => simp [intOf]; omega
            have hy1 : y.f1 < x.f2 := by omega
            by_cases hjk : j < k
            rotate_left
            · have hself : Aside0 (x = y) := ⟨by
                have : j = k := by omega
                subst this
                exact Option.some.inj (hx.out.symm.trans hy.out)⟩
              have HL2 := Aside0.mk (HL.out.yes hy.out ho (by rw [← hself.out]; exact crossP_self x))
              clear hself
              go_wp2
              go_roundw
              case rel => exact ⟨j + 1, q + 1, by omega, by omega, by go_num, by go_num, HL2, bel_alloc HW _⟩
              case measure => simp [intOf]; omega
            cases hn : y.f0.toList == x.f0.toList
            · have HL2 := Aside0.mk (HL.out.yes hy.out ho (crossP_ne hn))
              go_wp2
              go_roundw
              case rel => exact ⟨j + 1, q + 1, by omega, by omega, by go_num, by go_num, HL2, bel_alloc HW _⟩
              case measure => simp [intOf]; omega
            by_cases h5 : x.f2 ≤ y.f2
            · have HL2 := Aside0.mk (HL.out.yes hy.out ho (crossP_not (by omega)))
              go_wp2
              go_roundw
              case rel => exact ⟨j + 1, q + 1, by omega, by omega, by go_num, by go_num, HL2, bel_alloc HW _⟩
              case measure => simp [intOf]; omega
            have h6 : y.f2 ≤ x.f2 := by omega
            by_cases h7 : x.f1 ≤ y.f1
            · have HL2 := Aside0.mk (HL.out.yes hy.out ho (crossP_not (by omega)))
              go_wp2
              go_roundw
              case rel => exact ⟨j + 1, q + 1, by omega, by omega, by go_num, by go_num, HL2, bel_alloc HW _⟩
              case measure => simp [intOf]; omega
            · have HC := Aside0.mk (any_cross hy.out hjk ho (crossP_yes hn (by omega)))
              go_wp2
              go_ret2
              exact ⟨ret_two (by rw [HE.out, if_pos HC.out]), (HB5.alloc _).below⟩
          · obtain rfl : j = k + 1 := by omega
            obtain ⟨e1, e2⟩ := HL.out.end_ hx.out hx12
            have HE2 := Aside0.mk (HE.out.trans (by rw [if_neg (by rw [e2]; simp), e1]))
            clear e1 e2
            by_cases h40 : 40 < q
            · go_wp2
              go_ret2
              exact ⟨ret_two (by rw [HE2.out, if_pos h40]), HB5.below⟩
            · go_wp2
              go_roundw
              case rel => exact ⟨k + 1, _, by omega, by go_num, ⟨by rw [HE2.out, if_neg h40, hpr.out]; rfl⟩, HNX, HB5⟩
              case measure => simp [intOf]; omega
    · go_wp2
      go_ret2
      exact ⟨ret_two (by rw [HN.out, List.drop_eq_nil_of_le (by omega)]; rfl), HB.below⟩
end Go.Proofs.Ytkdgholmfnidkaa
