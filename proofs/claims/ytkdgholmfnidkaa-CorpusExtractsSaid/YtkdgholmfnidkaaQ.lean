/- Equality of texts, regions, and whole corpora: what the program returns. -/
import Derived.Test.YtkdgholmfnidkaaP
namespace Go.Proofs.Ytkdgholmfnidkaa
open Go.RowKit Go.Proofs.YtkdgholmfnidkaaW.PrintWords Go.Proofs.YtkdgholmfnidkaaW.PrintLast Go.Proofs.YtkdgholmfnidkaaW.PrintMore
def e64 (a b : S64) : Bool := a.f0.toList == b.f0.toList && (a.f1 == b.f1 && (a.f2 == b.f2 && eqBy e70 a.f3 b.f3))
def e39 (a b : S39) : Bool := a.f0.toList == b.f0.toList && (a.f1 == b.f1 && (a.f2 == b.f2 && eqBy e70 a.f3 b.f3))
def eq30 (x y : S30) : Bool := eqBy e62 x.f0 y.f0 && (eqBy (eqBy eS) x.f1 y.f1 && (eqBy e64 x.f2 y.f2 && (eqBy e39 x.f3 y.f3 && (eqBy e74 x.f4 y.f4 && (eqBy eI x.f5 y.f5 && eqBy eS x.f6 y.f6)))))
set_option maxHeartbeats 4000000 in
set_option maxRecDepth 100000 in
theorem equalTexts_calls (a b : S64) (A A' : Option Addr) (c c' : Nat) (w : World) (hr : Kd.C k70 w A a.f3.length a.f3) (hr' : Kd.C k70 w A' b.f3.length b.f3) :
    Calls Try.prog 63 #[.agg #[.string a.f0, .int .i64 a.f1, .int .i64 a.f2, .slice A a.f3.length c], .agg #[.string b.f0, .int .i64 b.f1, .int .i64 b.f2, .slice A' b.f3.length c']] w fun e w' => e = .returned (.bool (e64 a b)) ∧ Below w.heap.size w w' := by
  have hu := Try.underlying64
  have HR := Aside0.mk hr
  have HR' := Aside0.mk hr'
  have HB : Aside0 (Below w.heap.size w ((w.alloc (.cells #[.string a.f0, .int .i64 a.f1, .int .i64 a.f2, .slice A a.f3.length c] 64)).alloc (.cells #[.string b.f0, .int .i64 b.f1, .int .i64 b.f2, .slice A' b.f3.length c'] 64))) := ⟨below_alloc (below_alloc (Below.refl _ _) _) _⟩
  clear hr hr'
  cases h0 : a.f0.toList == b.f0.toList
  · go_enter Try.func63, Try.ntmps63
    go_wp2
    go_ret
    exact ⟨ret_bool (by rw [e64, h0]; rfl), HB.out⟩
  cases h1 : a.f1 == b.f1
  · go_enter Try.func63, Try.ntmps63
    go_wp2
    go_ret
    exact ⟨ret_bool (by rw [e64, h0, h1]; rfl), HB.out⟩
  cases h2 : a.f2 == b.f2
  · go_enter Try.func63, Try.ntmps63
    go_wp2
    go_ret
    exact ⟨ret_bool (by rw [e64, h0, h1, h2]; rfl), HB.out⟩
  have HE : Aside0 (e64 a b = eqBy e70 a.f3 b.f3) := ⟨by rw [e64, h0, h1, h2]; rfl⟩
  go_enter Try.func63, Try.ntmps63
  go_wp2_with (go_at_call 85; refine (equalPairs_calls A A' c c' a.f3 b.f3 _ (Kd.C_below HR.out HB.out) (Kd.C_below HR'.out HB.out)).mono ?_; rintro e w1 ⟨rfl, hb⟩)
  go_ret
  exact ⟨ret_bool HE.out.symm, below_step HB.out hb⟩
set_option maxHeartbeats 4000000 in
set_option maxRecDepth 100000 in
theorem equalRegions_calls (a b : S39) (A A' : Option Addr) (c c' : Nat) (w : World) (hr : Kd.C k70 w A a.f3.length a.f3) (hr' : Kd.C k70 w A' b.f3.length b.f3) :
    Calls Try.prog 65 #[.agg #[.string a.f0, .int .i64 a.f1, .int .i64 a.f2, .slice A a.f3.length c], .agg #[.string b.f0, .int .i64 b.f1, .int .i64 b.f2, .slice A' b.f3.length c']] w fun e w' => e = .returned (.bool (e39 a b)) ∧ Below w.heap.size w w' := by
  have hu := Try.underlying39
  have HR := Aside0.mk hr
  have HR' := Aside0.mk hr'
  have HB : Aside0 (Below w.heap.size w ((w.alloc (.cells #[.string a.f0, .int .i64 a.f1, .int .i64 a.f2, .slice A a.f3.length c] 39)).alloc (.cells #[.string b.f0, .int .i64 b.f1, .int .i64 b.f2, .slice A' b.f3.length c'] 39))) := ⟨below_alloc (below_alloc (Below.refl _ _) _) _⟩
  clear hr hr'
  cases h0 : a.f0.toList == b.f0.toList
  · go_enter Try.func65, Try.ntmps65
    go_wp2
    go_ret
    exact ⟨ret_bool (by rw [e39, h0]; rfl), HB.out⟩
  cases h1 : a.f1 == b.f1
  · go_enter Try.func65, Try.ntmps65
    go_wp2
    go_ret
    exact ⟨ret_bool (by rw [e39, h0, h1]; rfl), HB.out⟩
  cases h2 : a.f2 == b.f2
  · go_enter Try.func65, Try.ntmps65
    go_wp2
    go_ret
    exact ⟨ret_bool (by rw [e39, h0, h1, h2]; rfl), HB.out⟩
  have HE : Aside0 (e39 a b = eqBy e70 a.f3 b.f3) := ⟨by rw [e39, h0, h1, h2]; rfl⟩
  go_enter Try.func65, Try.ntmps65
  go_wp2_with (go_at_call 85; refine (equalPairs_calls A A' c c' a.f3 b.f3 _ (Kd.C_below HR.out HB.out) (Kd.C_below HR'.out HB.out)).mono ?_; rintro e w1 ⟨rfl, hb⟩)
  go_ret
  exact ⟨ret_bool HE.out.symm, below_step HB.out hb⟩
set_option maxHeartbeats 4000000 in
set_option maxRecDepth 100000 in
theorem equalTokens_calls (A A' : Option Addr) (c c' : Nat) (hs rs : List (List ByteArray)) (w : World) (hr : Kd.C (Kd.slice 9 Kd.string) w A hs.length hs) (hr' : Kd.C (Kd.slice 9 Kd.string) w A' rs.length rs) :
    Calls Try.prog 60 #[.slice A hs.length c, .slice A' rs.length c', .func (.func 61) #[] #[]] w fun e w' => e = .returned (.bool (eqBy (eqBy eS) hs rs)) ∧ Below w.heap.size w w' := by
  have hm := Kd.C_max hr
  have hm' := Kd.C_max hr'
  have HR := Aside0.mk hr
  have HR' := Aside0.mk hr'
  clear hr hr'
  by_cases hl : hs.length = rs.length
  · have hlb : ((hs.length : Int) != (rs.length : Int)) = false := by rw [bne_eq_false_iff_eq]; omega
    have HL := Aside0.mk hl
    clear hl
    go_enter Try.func60, Try.ntmps60
    go_wp2
    go_loopw [15] (fun i wr => ∃ k : Nat, k ≤ hs.length ∧ i = .int .i64 k ∧ Aside0 (eqBy (eqBy eS) hs rs = eqBy (eqBy eS) (hs.drop k) (rs.drop k)) ∧ Aside0 (Below w.heap.size w wr)) (fun i _ => hs.length - (intOf i).toNat)
    case atStart => exact ⟨0, Nat.zero_le _, rfl, ⟨rfl⟩, bel_refl _⟩
    case round =>
      obtain ⟨k, hk, rfl, HN, HB⟩ := hrel
      by_cases hlt : k < hs.length
      · have hlt' : k < rs.length := by have := HL.out; omega
        obtain ⟨ad, x, Ax, cx, rfl, hd, -, q0, lx, gx⟩ := elL HR HB k hlt
        obtain ⟨ad', y, Ay, cy, rfl, hd', -, q0', ly, gy⟩ := elL HR' HB k hlt'
        have HS : Aside0 (eqBy (eqBy eS) hs rs = ((eqBy eS) x y && eqBy (eqBy eS) (hs.drop (k + 1)) (rs.drop (k + 1)))) := ⟨by rw [HN.out, hd.out, hd'.out, eqBy]⟩
        clear HN hd hd'
        have HSw := bel_refl wr
        go_wp2
        go_region_held3 (fun w' => w'.cell? (ad.add k) = some (.slice Ax x.length cx) ∧ w'.cell? (ad'.add k) = some (.slice Ay y.length cy))
          (refine ⟨?_, ?_⟩ <;> first | (go_keep; done) | (refine pw_cell_below (w := wr) (Aside0.out ?_) (by assumption); (repeat' (first | exact HSw | with_reducible apply bel_drew | refine bel_step ?_ hb5)); done))
          (first | (go_at_call 61; refine (equalStrings_calls Ax Ay cx cy x y _ (Kd.C_below gx.out (bel_drew HB).out) (Kd.C_below gy.out (bel_drew HB).out)).mono ?_; rintro e w5 ⟨rfl, hb5⟩))
        all_goals
          have HB5 : Aside0 (Below w.heap.size w w5) := bel_step (bel_drew HB) hb5
          cases hx : (eqBy eS) x y
          · go_wp2_with fail
            go_ret
            exact ⟨ret_bool (by rw [HS.out, hx]; rfl), HB5.out⟩
          · go_wp2_with fail
            go_roundw
            case rel => exact ⟨k + 1, by omega, by go_num, ⟨by rw [HS.out, hx]; rfl⟩, HB5⟩
            case measure => simp [intOf]; omega
      · go_wp2
        go_ret
        exact ⟨ret_bool (by rw [HN.out, List.drop_eq_nil_of_le (by omega), List.drop_eq_nil_of_le (by have := HL.out; omega)]; rfl), HB.out⟩
  · have hlb : ((hs.length : Int) != (rs.length : Int)) = true := by rw [bne_iff_ne]; omega
    have HE : Aside0 (eqBy (eqBy eS) hs rs = false) := ⟨eqBy_ne hl⟩
    clear hl
    go_enter Try.func60, Try.ntmps60
    go_wp2
    go_ret
    exact ⟨ret_bool HE.out.symm, Below.refl _ _⟩
set_option maxHeartbeats 4000000 in
set_option maxRecDepth 100000 in
theorem equalTextLists_calls (A A' : Option Addr) (c c' : Nat) (hs rs : List S64) (w : World) (hr : Kd.C k64 w A hs.length hs) (hr' : Kd.C k64 w A' rs.length rs) :
    Calls Try.prog 62 #[.slice A hs.length c, .slice A' rs.length c', .func (.func 63) #[] #[]] w fun e w' => e = .returned (.bool (eqBy e64 hs rs)) ∧ Below w.heap.size w w' := by
  have hm := Kd.C_max hr
  have hm' := Kd.C_max hr'
  have HR := Aside0.mk hr
  have HR' := Aside0.mk hr'
  clear hr hr'
  by_cases hl : hs.length = rs.length
  · have hlb : ((hs.length : Int) != (rs.length : Int)) = false := by rw [bne_eq_false_iff_eq]; omega
    have HL := Aside0.mk hl
    clear hl
    go_enter Try.func62, Try.ntmps62
    go_wp2
    go_loopw [15] (fun i wr => ∃ k : Nat, k ≤ hs.length ∧ i = .int .i64 k ∧ Aside0 (eqBy e64 hs rs = eqBy e64 (hs.drop k) (rs.drop k)) ∧ Aside0 (Below w.heap.size w wr)) (fun i _ => hs.length - (intOf i).toNat)
    case atStart => exact ⟨0, Nat.zero_le _, rfl, ⟨rfl⟩, bel_refl _⟩
    case round =>
      obtain ⟨k, hk, rfl, HN, HB⟩ := hrel
      by_cases hlt : k < hs.length
      · have hlt' : k < rs.length := by have := HL.out; omega
        obtain ⟨ad, x, Ax, cx, rfl, hd, -, q0, q1, q2, q3, lx, gx⟩ := el64 HR HB k hlt
        obtain ⟨ad', y, Ay, cy, rfl, hd', -, q0', q1', q2', q3', ly, gy⟩ := el64 HR' HB k hlt'
        have HS : Aside0 (eqBy e64 hs rs = (e64 x y && eqBy e64 (hs.drop (k + 1)) (rs.drop (k + 1)))) := ⟨by rw [HN.out, hd.out, hd'.out, eqBy]⟩
        clear HN hd hd'
        have HSw := bel_refl wr
        go_wp2
        go_region_held3 (fun w' => w'.cell? (ad.add (k * 4)) = some (.string x.f0) ∧ w'.cell? (⟨(ad.add (k * 4)).block, (ad.add (k * 4)).off + 1, none⟩) = some (.int .i64 x.f1) ∧ w'.cell? (⟨(ad.add (k * 4)).block, (ad.add (k * 4)).off + 2, none⟩) = some (.int .i64 x.f2) ∧ w'.cell? (⟨(ad.add (k * 4)).block, (ad.add (k * 4)).off + 3, none⟩) = some (.slice Ax x.f3.length cx) ∧ w'.cell? (ad'.add (k * 4)) = some (.string y.f0) ∧ w'.cell? (⟨(ad'.add (k * 4)).block, (ad'.add (k * 4)).off + 1, none⟩) = some (.int .i64 y.f1) ∧ w'.cell? (⟨(ad'.add (k * 4)).block, (ad'.add (k * 4)).off + 2, none⟩) = some (.int .i64 y.f2) ∧ w'.cell? (⟨(ad'.add (k * 4)).block, (ad'.add (k * 4)).off + 3, none⟩) = some (.slice Ay y.f3.length cy))
          (refine ⟨?_, ?_, ?_, ?_, ?_, ?_, ?_, ?_⟩ <;> first | (go_keep; done) | (refine pw_cell_below (w := wr) (Aside0.out ?_) (by assumption); (repeat' (first | exact HSw | with_reducible apply bel_drew | refine bel_step ?_ hb5)); done))
          (first | (go_at_call 63; refine (equalTexts_calls x y Ax Ay cx cy _ (Kd.C_below gx.out (bel_drew HB).out) (Kd.C_below gy.out (bel_drew HB).out)).mono ?_; rintro e w5 ⟨rfl, hb5⟩))
        all_goals
          have HB5 : Aside0 (Below w.heap.size w w5) := bel_step (bel_drew HB) hb5
          cases hx : e64 x y
          · go_wp2_with fail
            go_ret
            exact ⟨ret_bool (by rw [HS.out, hx]; rfl), HB5.out⟩
          · go_wp2_with fail
            go_roundw
            case rel => exact ⟨k + 1, by omega, by go_num, ⟨by rw [HS.out, hx]; rfl⟩, HB5⟩
            case measure => simp [intOf]; omega
      · go_wp2
        go_ret
        exact ⟨ret_bool (by rw [HN.out, List.drop_eq_nil_of_le (by omega), List.drop_eq_nil_of_le (by have := HL.out; omega)]; rfl), HB.out⟩
  · have hlb : ((hs.length : Int) != (rs.length : Int)) = true := by rw [bne_iff_ne]; omega
    have HE : Aside0 (eqBy e64 hs rs = false) := ⟨eqBy_ne hl⟩
    clear hl
    go_enter Try.func62, Try.ntmps62
    go_wp2
    go_ret
    exact ⟨ret_bool HE.out.symm, Below.refl _ _⟩
set_option maxHeartbeats 4000000 in
set_option maxRecDepth 100000 in
theorem equalRegionLists_calls (A A' : Option Addr) (c c' : Nat) (hs rs : List S39) (w : World) (hr : Kd.C k39 w A hs.length hs) (hr' : Kd.C k39 w A' rs.length rs) :
    Calls Try.prog 64 #[.slice A hs.length c, .slice A' rs.length c', .func (.func 65) #[] #[]] w fun e w' => e = .returned (.bool (eqBy e39 hs rs)) ∧ Below w.heap.size w w' := by
  have hm := Kd.C_max hr
  have hm' := Kd.C_max hr'
  have HR := Aside0.mk hr
  have HR' := Aside0.mk hr'
  clear hr hr'
  by_cases hl : hs.length = rs.length
  · have hlb : ((hs.length : Int) != (rs.length : Int)) = false := by rw [bne_eq_false_iff_eq]; omega
    have HL := Aside0.mk hl
    clear hl
    go_enter Try.func64, Try.ntmps64
    go_wp2
    go_loopw [15] (fun i wr => ∃ k : Nat, k ≤ hs.length ∧ i = .int .i64 k ∧ Aside0 (eqBy e39 hs rs = eqBy e39 (hs.drop k) (rs.drop k)) ∧ Aside0 (Below w.heap.size w wr)) (fun i _ => hs.length - (intOf i).toNat)
    case atStart => exact ⟨0, Nat.zero_le _, rfl, ⟨rfl⟩, bel_refl _⟩
    case round =>
      obtain ⟨k, hk, rfl, HN, HB⟩ := hrel
      by_cases hlt : k < hs.length
      · have hlt' : k < rs.length := by have := HL.out; omega
        obtain ⟨ad, x, Ax, cx, rfl, hd, -, q0, q1, q2, q3, lx, gx⟩ := el39 HR HB k hlt
        obtain ⟨ad', y, Ay, cy, rfl, hd', -, q0', q1', q2', q3', ly, gy⟩ := el39 HR' HB k hlt'
        have HS : Aside0 (eqBy e39 hs rs = (e39 x y && eqBy e39 (hs.drop (k + 1)) (rs.drop (k + 1)))) := ⟨by rw [HN.out, hd.out, hd'.out, eqBy]⟩
        clear HN hd hd'
        have HSw := bel_refl wr
        go_wp2
        go_region_held3 (fun w' => w'.cell? (ad.add (k * 4)) = some (.string x.f0) ∧ w'.cell? (⟨(ad.add (k * 4)).block, (ad.add (k * 4)).off + 1, none⟩) = some (.int .i64 x.f1) ∧ w'.cell? (⟨(ad.add (k * 4)).block, (ad.add (k * 4)).off + 2, none⟩) = some (.int .i64 x.f2) ∧ w'.cell? (⟨(ad.add (k * 4)).block, (ad.add (k * 4)).off + 3, none⟩) = some (.slice Ax x.f3.length cx) ∧ w'.cell? (ad'.add (k * 4)) = some (.string y.f0) ∧ w'.cell? (⟨(ad'.add (k * 4)).block, (ad'.add (k * 4)).off + 1, none⟩) = some (.int .i64 y.f1) ∧ w'.cell? (⟨(ad'.add (k * 4)).block, (ad'.add (k * 4)).off + 2, none⟩) = some (.int .i64 y.f2) ∧ w'.cell? (⟨(ad'.add (k * 4)).block, (ad'.add (k * 4)).off + 3, none⟩) = some (.slice Ay y.f3.length cy))
          (refine ⟨?_, ?_, ?_, ?_, ?_, ?_, ?_, ?_⟩ <;> first | (go_keep; done) | (refine pw_cell_below (w := wr) (Aside0.out ?_) (by assumption); (repeat' (first | exact HSw | with_reducible apply bel_drew | refine bel_step ?_ hb5)); done))
          (first | (go_at_call 65; refine (equalRegions_calls x y Ax Ay cx cy _ (Kd.C_below gx.out (bel_drew HB).out) (Kd.C_below gy.out (bel_drew HB).out)).mono ?_; rintro e w5 ⟨rfl, hb5⟩))
        all_goals
          have HB5 : Aside0 (Below w.heap.size w w5) := bel_step (bel_drew HB) hb5
          cases hx : e39 x y
          · go_wp2_with fail
            go_ret
            exact ⟨ret_bool (by rw [HS.out, hx]; rfl), HB5.out⟩
          · go_wp2_with fail
            go_roundw
            case rel => exact ⟨k + 1, by omega, by go_num, ⟨by rw [HS.out, hx]; rfl⟩, HB5⟩
            case measure => simp [intOf]; omega
      · go_wp2
        go_ret
        exact ⟨ret_bool (by rw [HN.out, List.drop_eq_nil_of_le (by omega), List.drop_eq_nil_of_le (by have := HL.out; omega)]; rfl), HB.out⟩
  · have hlb : ((hs.length : Int) != (rs.length : Int)) = true := by rw [bne_iff_ne]; omega
    have HE : Aside0 (eqBy e39 hs rs = false) := ⟨eqBy_ne hl⟩
    clear hl
    go_enter Try.func64, Try.ntmps64
    go_wp2
    go_ret
    exact ⟨ret_bool HE.out.symm, Below.refl _ _⟩
set_option maxHeartbeats 16000000 in
set_option maxRecDepth 100000 in
theorem Equal_calls (x y : S30) (cs cs' : List Value) (w : World) (hx : k30.K w x cs) (hy : k30.K w y cs') :
    Calls Try.prog 29 #[.agg cs.toArray, .agg cs'.toArray] w fun e w' => e = .returned (.bool (eq30 x y)) ∧ Below w.heap.size w w' := by
  have hu30 := Try.underlying30
  obtain ⟨A0, c0, A1, c1, A2, c2, A3, c3, A4, c4, A5, c5, A6, c6, rfl, l0, g0, l1, g1, l2, g2, l3, g3, l4, g4, l5, g5, l6, g6⟩ := k30_open hx
  obtain ⟨A0', c0', A1', c1', A2', c2', A3', c3', A4', c4', A5', c5', A6', c6', rfl, l0', g0', l1', g1', l2', g2', l3', g3', l4', g4', l5', g5', l6', g6'⟩ := k30_open hy
  clear hx hy
  have G0 := Aside0.mk g0
  have G0' := Aside0.mk g0'
  have G1 := Aside0.mk g1
  have G1' := Aside0.mk g1'
  have G2 := Aside0.mk g2
  have G2' := Aside0.mk g2'
  have G3 := Aside0.mk g3
  have G3' := Aside0.mk g3'
  have G4 := Aside0.mk g4
  have G4' := Aside0.mk g4'
  have G5 := Aside0.mk g5
  have G5' := Aside0.mk g5'
  have G6 := Aside0.mk g6
  have G6' := Aside0.mk g6'
  clear g0 g0' g1 g1' g2 g2' g3 g3' g4 g4' g5 g5' g6 g6'
  have B0 := blk_alloc (blk_new w (.cells #[.slice A0 x.f0.length c0, .slice A1 x.f1.length c1, .slice A2 x.f2.length c2, .slice A3 x.f3.length c3, .slice A4 x.f4.length c4, .slice A5 x.f5.length c5, .slice A6 x.f6.length c6] 30)) (.cells #[.slice A0' y.f0.length c0', .slice A1' y.f1.length c1', .slice A2' y.f2.length c2', .slice A3' y.f3.length c3', .slice A4' y.f4.length c4', .slice A5' y.f5.length c5', .slice A6' y.f6.length c6'] 30)
  have B1 := blk_new (w.alloc (.cells #[.slice A0 x.f0.length c0, .slice A1 x.f1.length c1, .slice A2 x.f2.length c2, .slice A3 x.f3.length c3, .slice A4 x.f4.length c4, .slice A5 x.f5.length c5, .slice A6 x.f6.length c6] 30)) (.cells #[.slice A0' y.f0.length c0', .slice A1' y.f1.length c1', .slice A2' y.f2.length c2', .slice A3' y.f3.length c3', .slice A4' y.f4.length c4', .slice A5' y.f5.length c5', .slice A6' y.f6.length c6'] 30)
  rw [World.size_alloc] at B1
  have HB : Aside0 (Below w.heap.size w ((w.alloc (.cells #[.slice A0 x.f0.length c0, .slice A1 x.f1.length c1, .slice A2 x.f2.length c2, .slice A3 x.f3.length c3, .slice A4 x.f4.length c4, .slice A5 x.f5.length c5, .slice A6 x.f6.length c6] 30)).alloc (.cells #[.slice A0' y.f0.length c0', .slice A1' y.f1.length c1', .slice A2' y.f2.length c2', .slice A3' y.f3.length c3', .slice A4' y.f4.length c4', .slice A5' y.f5.length c5', .slice A6' y.f6.length c6'] 30))) := ⟨below_alloc (below_alloc (Below.refl _ _) _) _⟩
  cases h0 : eqBy e62 x.f0 y.f0
  · go_enter Try.func29, Try.ntmps29
    go_wp2_with (first | (go_at_call 59; refine (equalAttrs_calls A0 A0' c0 c0' x.f0 y.f0 _ (Kd.C_below G0.out HB.out) (Kd.C_below G0'.out HB.out)).mono ?_; rintro e w1 ⟨rfl, hb⟩; replace HB := bel_step HB hb; replace B0 := blk_below B0 hb; replace B1 := blk_below B1 hb; have z0 := blk_cell B0; have z1 := blk_cell B1; clear hb))
    go_ret
    exact ⟨ret_bool (by simp only [eq30, h0, Bool.false_and]), HB.out⟩
  cases h1 : eqBy (eqBy eS) x.f1 y.f1
  · go_enter Try.func29, Try.ntmps29
    go_wp2_with (first | (go_at_call 59; refine (equalAttrs_calls A0 A0' c0 c0' x.f0 y.f0 _ (Kd.C_below G0.out HB.out) (Kd.C_below G0'.out HB.out)).mono ?_; rintro e w1 ⟨rfl, hb⟩; replace HB := bel_step HB hb; replace B0 := blk_below B0 hb; replace B1 := blk_below B1 hb; have z0 := blk_cell B0; have z1 := blk_cell B1; clear hb) | (go_at_call 60; refine (equalTokens_calls A1 A1' c1 c1' x.f1 y.f1 _ (Kd.C_below G1.out HB.out) (Kd.C_below G1'.out HB.out)).mono ?_; rintro e w1 ⟨rfl, hb⟩; replace HB := bel_step HB hb; replace B0 := blk_below B0 hb; replace B1 := blk_below B1 hb; have z0 := blk_cell B0; have z1 := blk_cell B1; clear hb))
    go_ret
    exact ⟨ret_bool (by simp only [eq30, h0, h1, Bool.false_and, Bool.and_false]), HB.out⟩
  cases h2 : eqBy e64 x.f2 y.f2
  · go_enter Try.func29, Try.ntmps29
    go_wp2_with (first | (go_at_call 59; refine (equalAttrs_calls A0 A0' c0 c0' x.f0 y.f0 _ (Kd.C_below G0.out HB.out) (Kd.C_below G0'.out HB.out)).mono ?_; rintro e w1 ⟨rfl, hb⟩; replace HB := bel_step HB hb; replace B0 := blk_below B0 hb; replace B1 := blk_below B1 hb; have z0 := blk_cell B0; have z1 := blk_cell B1; clear hb) | (go_at_call 60; refine (equalTokens_calls A1 A1' c1 c1' x.f1 y.f1 _ (Kd.C_below G1.out HB.out) (Kd.C_below G1'.out HB.out)).mono ?_; rintro e w1 ⟨rfl, hb⟩; replace HB := bel_step HB hb; replace B0 := blk_below B0 hb; replace B1 := blk_below B1 hb; have z0 := blk_cell B0; have z1 := blk_cell B1; clear hb) | (go_at_call 62; refine (equalTextLists_calls A2 A2' c2 c2' x.f2 y.f2 _ (Kd.C_below G2.out HB.out) (Kd.C_below G2'.out HB.out)).mono ?_; rintro e w1 ⟨rfl, hb⟩; replace HB := bel_step HB hb; replace B0 := blk_below B0 hb; replace B1 := blk_below B1 hb; have z0 := blk_cell B0; have z1 := blk_cell B1; clear hb))
    go_ret
    exact ⟨ret_bool (by simp only [eq30, h0, h1, h2, Bool.false_and, Bool.and_false]), HB.out⟩
  cases h3 : eqBy e39 x.f3 y.f3
  · go_enter Try.func29, Try.ntmps29
    go_wp2_with (first | (go_at_call 59; refine (equalAttrs_calls A0 A0' c0 c0' x.f0 y.f0 _ (Kd.C_below G0.out HB.out) (Kd.C_below G0'.out HB.out)).mono ?_; rintro e w1 ⟨rfl, hb⟩; replace HB := bel_step HB hb; replace B0 := blk_below B0 hb; replace B1 := blk_below B1 hb; have z0 := blk_cell B0; have z1 := blk_cell B1; clear hb) | (go_at_call 60; refine (equalTokens_calls A1 A1' c1 c1' x.f1 y.f1 _ (Kd.C_below G1.out HB.out) (Kd.C_below G1'.out HB.out)).mono ?_; rintro e w1 ⟨rfl, hb⟩; replace HB := bel_step HB hb; replace B0 := blk_below B0 hb; replace B1 := blk_below B1 hb; have z0 := blk_cell B0; have z1 := blk_cell B1; clear hb) | (go_at_call 62; refine (equalTextLists_calls A2 A2' c2 c2' x.f2 y.f2 _ (Kd.C_below G2.out HB.out) (Kd.C_below G2'.out HB.out)).mono ?_; rintro e w1 ⟨rfl, hb⟩; replace HB := bel_step HB hb; replace B0 := blk_below B0 hb; replace B1 := blk_below B1 hb; have z0 := blk_cell B0; have z1 := blk_cell B1; clear hb) | (go_at_call 64; refine (equalRegionLists_calls A3 A3' c3 c3' x.f3 y.f3 _ (Kd.C_below G3.out HB.out) (Kd.C_below G3'.out HB.out)).mono ?_; rintro e w1 ⟨rfl, hb⟩; replace HB := bel_step HB hb; replace B0 := blk_below B0 hb; replace B1 := blk_below B1 hb; have z0 := blk_cell B0; have z1 := blk_cell B1; clear hb))
    go_ret
    exact ⟨ret_bool (by simp only [eq30, h0, h1, h2, h3, Bool.false_and, Bool.and_false]), HB.out⟩
  cases h4 : eqBy e74 x.f4 y.f4
  · go_enter Try.func29, Try.ntmps29
    go_wp2_with (first | (go_at_call 59; refine (equalAttrs_calls A0 A0' c0 c0' x.f0 y.f0 _ (Kd.C_below G0.out HB.out) (Kd.C_below G0'.out HB.out)).mono ?_; rintro e w1 ⟨rfl, hb⟩; replace HB := bel_step HB hb; replace B0 := blk_below B0 hb; replace B1 := blk_below B1 hb; have z0 := blk_cell B0; have z1 := blk_cell B1; clear hb) | (go_at_call 60; refine (equalTokens_calls A1 A1' c1 c1' x.f1 y.f1 _ (Kd.C_below G1.out HB.out) (Kd.C_below G1'.out HB.out)).mono ?_; rintro e w1 ⟨rfl, hb⟩; replace HB := bel_step HB hb; replace B0 := blk_below B0 hb; replace B1 := blk_below B1 hb; have z0 := blk_cell B0; have z1 := blk_cell B1; clear hb) | (go_at_call 62; refine (equalTextLists_calls A2 A2' c2 c2' x.f2 y.f2 _ (Kd.C_below G2.out HB.out) (Kd.C_below G2'.out HB.out)).mono ?_; rintro e w1 ⟨rfl, hb⟩; replace HB := bel_step HB hb; replace B0 := blk_below B0 hb; replace B1 := blk_below B1 hb; have z0 := blk_cell B0; have z1 := blk_cell B1; clear hb) | (go_at_call 64; refine (equalRegionLists_calls A3 A3' c3 c3' x.f3 y.f3 _ (Kd.C_below G3.out HB.out) (Kd.C_below G3'.out HB.out)).mono ?_; rintro e w1 ⟨rfl, hb⟩; replace HB := bel_step HB hb; replace B0 := blk_below B0 hb; replace B1 := blk_below B1 hb; have z0 := blk_cell B0; have z1 := blk_cell B1; clear hb) | (go_at_call 66; refine (equalNodes_calls A4 A4' c4 c4' x.f4 y.f4 _ (Kd.C_below G4.out HB.out) (Kd.C_below G4'.out HB.out)).mono ?_; rintro e w1 ⟨rfl, hb⟩; replace HB := bel_step HB hb; replace B0 := blk_below B0 hb; replace B1 := blk_below B1 hb; have z0 := blk_cell B0; have z1 := blk_cell B1; clear hb))
    go_ret
    exact ⟨ret_bool (by simp only [eq30, h0, h1, h2, h3, h4, Bool.false_and, Bool.and_false]), HB.out⟩
  cases h5 : eqBy eI x.f5 y.f5
  · go_enter Try.func29, Try.ntmps29
    go_wp2_with (first | (go_at_call 59; refine (equalAttrs_calls A0 A0' c0 c0' x.f0 y.f0 _ (Kd.C_below G0.out HB.out) (Kd.C_below G0'.out HB.out)).mono ?_; rintro e w1 ⟨rfl, hb⟩; replace HB := bel_step HB hb; replace B0 := blk_below B0 hb; replace B1 := blk_below B1 hb; have z0 := blk_cell B0; have z1 := blk_cell B1; clear hb) | (go_at_call 60; refine (equalTokens_calls A1 A1' c1 c1' x.f1 y.f1 _ (Kd.C_below G1.out HB.out) (Kd.C_below G1'.out HB.out)).mono ?_; rintro e w1 ⟨rfl, hb⟩; replace HB := bel_step HB hb; replace B0 := blk_below B0 hb; replace B1 := blk_below B1 hb; have z0 := blk_cell B0; have z1 := blk_cell B1; clear hb) | (go_at_call 62; refine (equalTextLists_calls A2 A2' c2 c2' x.f2 y.f2 _ (Kd.C_below G2.out HB.out) (Kd.C_below G2'.out HB.out)).mono ?_; rintro e w1 ⟨rfl, hb⟩; replace HB := bel_step HB hb; replace B0 := blk_below B0 hb; replace B1 := blk_below B1 hb; have z0 := blk_cell B0; have z1 := blk_cell B1; clear hb) | (go_at_call 64; refine (equalRegionLists_calls A3 A3' c3 c3' x.f3 y.f3 _ (Kd.C_below G3.out HB.out) (Kd.C_below G3'.out HB.out)).mono ?_; rintro e w1 ⟨rfl, hb⟩; replace HB := bel_step HB hb; replace B0 := blk_below B0 hb; replace B1 := blk_below B1 hb; have z0 := blk_cell B0; have z1 := blk_cell B1; clear hb) | (go_at_call 66; refine (equalNodes_calls A4 A4' c4 c4' x.f4 y.f4 _ (Kd.C_below G4.out HB.out) (Kd.C_below G4'.out HB.out)).mono ?_; rintro e w1 ⟨rfl, hb⟩; replace HB := bel_step HB hb; replace B0 := blk_below B0 hb; replace B1 := blk_below B1 hb; have z0 := blk_cell B0; have z1 := blk_cell B1; clear hb) | (go_at_call 67; refine (equalInts_calls A5 A5' c5 c5' x.f5 y.f5 _ (Kd.C_below G5.out HB.out) (Kd.C_below G5'.out HB.out)).mono ?_; rintro e w1 ⟨rfl, hb⟩; replace HB := bel_step HB hb; replace B0 := blk_below B0 hb; replace B1 := blk_below B1 hb; have z0 := blk_cell B0; have z1 := blk_cell B1; clear hb))
    go_ret
    exact ⟨ret_bool (by simp only [eq30, h0, h1, h2, h3, h4, h5, Bool.false_and, Bool.and_false]), HB.out⟩
  cases h6 : eqBy eS x.f6 y.f6
  · go_enter Try.func29, Try.ntmps29
    go_wp2_with (first | (go_at_call 59; refine (equalAttrs_calls A0 A0' c0 c0' x.f0 y.f0 _ (Kd.C_below G0.out HB.out) (Kd.C_below G0'.out HB.out)).mono ?_; rintro e w1 ⟨rfl, hb⟩; replace HB := bel_step HB hb; replace B0 := blk_below B0 hb; replace B1 := blk_below B1 hb; have z0 := blk_cell B0; have z1 := blk_cell B1; clear hb) | (go_at_call 60; refine (equalTokens_calls A1 A1' c1 c1' x.f1 y.f1 _ (Kd.C_below G1.out HB.out) (Kd.C_below G1'.out HB.out)).mono ?_; rintro e w1 ⟨rfl, hb⟩; replace HB := bel_step HB hb; replace B0 := blk_below B0 hb; replace B1 := blk_below B1 hb; have z0 := blk_cell B0; have z1 := blk_cell B1; clear hb) | (go_at_call 62; refine (equalTextLists_calls A2 A2' c2 c2' x.f2 y.f2 _ (Kd.C_below G2.out HB.out) (Kd.C_below G2'.out HB.out)).mono ?_; rintro e w1 ⟨rfl, hb⟩; replace HB := bel_step HB hb; replace B0 := blk_below B0 hb; replace B1 := blk_below B1 hb; have z0 := blk_cell B0; have z1 := blk_cell B1; clear hb) | (go_at_call 64; refine (equalRegionLists_calls A3 A3' c3 c3' x.f3 y.f3 _ (Kd.C_below G3.out HB.out) (Kd.C_below G3'.out HB.out)).mono ?_; rintro e w1 ⟨rfl, hb⟩; replace HB := bel_step HB hb; replace B0 := blk_below B0 hb; replace B1 := blk_below B1 hb; have z0 := blk_cell B0; have z1 := blk_cell B1; clear hb) | (go_at_call 66; refine (equalNodes_calls A4 A4' c4 c4' x.f4 y.f4 _ (Kd.C_below G4.out HB.out) (Kd.C_below G4'.out HB.out)).mono ?_; rintro e w1 ⟨rfl, hb⟩; replace HB := bel_step HB hb; replace B0 := blk_below B0 hb; replace B1 := blk_below B1 hb; have z0 := blk_cell B0; have z1 := blk_cell B1; clear hb) | (go_at_call 67; refine (equalInts_calls A5 A5' c5 c5' x.f5 y.f5 _ (Kd.C_below G5.out HB.out) (Kd.C_below G5'.out HB.out)).mono ?_; rintro e w1 ⟨rfl, hb⟩; replace HB := bel_step HB hb; replace B0 := blk_below B0 hb; replace B1 := blk_below B1 hb; have z0 := blk_cell B0; have z1 := blk_cell B1; clear hb) | (go_at_call 61; refine (equalStrings_calls A6 A6' c6 c6' x.f6 y.f6 _ (Kd.C_below G6.out HB.out) (Kd.C_below G6'.out HB.out)).mono ?_; rintro e w1 ⟨rfl, hb⟩; replace HB := bel_step HB hb; replace B0 := blk_below B0 hb; replace B1 := blk_below B1 hb; have z0 := blk_cell B0; have z1 := blk_cell B1; clear hb))
    go_ret
    exact ⟨ret_bool (by simp only [eq30, h0, h1, h2, h3, h4, h5, h6, Bool.and_false]), HB.out⟩
  go_enter Try.func29, Try.ntmps29
  go_wp2_with (first | (go_at_call 59; refine (equalAttrs_calls A0 A0' c0 c0' x.f0 y.f0 _ (Kd.C_below G0.out HB.out) (Kd.C_below G0'.out HB.out)).mono ?_; rintro e w1 ⟨rfl, hb⟩; replace HB := bel_step HB hb; replace B0 := blk_below B0 hb; replace B1 := blk_below B1 hb; have z0 := blk_cell B0; have z1 := blk_cell B1; clear hb) | (go_at_call 60; refine (equalTokens_calls A1 A1' c1 c1' x.f1 y.f1 _ (Kd.C_below G1.out HB.out) (Kd.C_below G1'.out HB.out)).mono ?_; rintro e w1 ⟨rfl, hb⟩; replace HB := bel_step HB hb; replace B0 := blk_below B0 hb; replace B1 := blk_below B1 hb; have z0 := blk_cell B0; have z1 := blk_cell B1; clear hb) | (go_at_call 62; refine (equalTextLists_calls A2 A2' c2 c2' x.f2 y.f2 _ (Kd.C_below G2.out HB.out) (Kd.C_below G2'.out HB.out)).mono ?_; rintro e w1 ⟨rfl, hb⟩; replace HB := bel_step HB hb; replace B0 := blk_below B0 hb; replace B1 := blk_below B1 hb; have z0 := blk_cell B0; have z1 := blk_cell B1; clear hb) | (go_at_call 64; refine (equalRegionLists_calls A3 A3' c3 c3' x.f3 y.f3 _ (Kd.C_below G3.out HB.out) (Kd.C_below G3'.out HB.out)).mono ?_; rintro e w1 ⟨rfl, hb⟩; replace HB := bel_step HB hb; replace B0 := blk_below B0 hb; replace B1 := blk_below B1 hb; have z0 := blk_cell B0; have z1 := blk_cell B1; clear hb) | (go_at_call 66; refine (equalNodes_calls A4 A4' c4 c4' x.f4 y.f4 _ (Kd.C_below G4.out HB.out) (Kd.C_below G4'.out HB.out)).mono ?_; rintro e w1 ⟨rfl, hb⟩; replace HB := bel_step HB hb; replace B0 := blk_below B0 hb; replace B1 := blk_below B1 hb; have z0 := blk_cell B0; have z1 := blk_cell B1; clear hb) | (go_at_call 67; refine (equalInts_calls A5 A5' c5 c5' x.f5 y.f5 _ (Kd.C_below G5.out HB.out) (Kd.C_below G5'.out HB.out)).mono ?_; rintro e w1 ⟨rfl, hb⟩; replace HB := bel_step HB hb; replace B0 := blk_below B0 hb; replace B1 := blk_below B1 hb; have z0 := blk_cell B0; have z1 := blk_cell B1; clear hb) | (go_at_call 61; refine (equalStrings_calls A6 A6' c6 c6' x.f6 y.f6 _ (Kd.C_below G6.out HB.out) (Kd.C_below G6'.out HB.out)).mono ?_; rintro e w1 ⟨rfl, hb⟩; replace HB := bel_step HB hb; replace B0 := blk_below B0 hb; replace B1 := blk_below B1 hb; have z0 := blk_cell B0; have z1 := blk_cell B1; clear hb))
  go_ret
  exact ⟨ret_bool (by simp only [eq30, h0, h1, h2, h3, h4, h5, h6, Bool.and_true]), HB.out⟩
end Go.Proofs.Ytkdgholmfnidkaa
