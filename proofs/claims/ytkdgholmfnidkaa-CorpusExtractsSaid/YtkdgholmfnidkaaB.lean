/- The order of regions; whether an interval lies in a text; ancestors: what each call returns. -/
import Derived.Test.YtkdgholmfnidkaaA
namespace Go.Proofs.Ytkdgholmfnidkaa
open Go.RowKit Go.Proofs.YtkdgholmfnidkaaW.PrintWords Go.Proofs.YtkdgholmfnidkaaW.PrintLast Go.Proofs.YtkdgholmfnidkaaW.PrintMore

def inTextB (ts : List S64) (b e : Int) : Bool := decide (b < e) && match ts.find? (inT b) with | some t => decide (e ≤ t.f2) | none => false
theorem textAtGo_cases (p : Int) : ∀ (ts : List S64) (j : Nat), (textAtGo p ts j = -1 ∧ ts.find? (inT p) = none) ∨ ∃ k x, k < ts.length ∧ textAtGo p ts j = ((j + k : Nat) : Int) ∧ ts[k]? = some x ∧ ts.find? (inT p) = some x
  | [], j => .inl ⟨rfl, rfl⟩
  | t :: ts, j => by
    by_cases h : inT p t = true
    · exact .inr ⟨0, t, by simp, by simp [textAtGo, h], rfl, by simp [List.find?, h]⟩
    · rcases textAtGo_cases p ts (j + 1) with ⟨h1, h2⟩ | ⟨k, x, h0, h1, h2, h3⟩
      · exact .inl ⟨by simp [textAtGo, h, h1], by simp [List.find?, h, h2]⟩
      · exact .inr ⟨k + 1, x, by simp; omega, by simp only [textAtGo, h]; rw [if_neg (by simp), h1]; omega, by simpa using h2, by simp [List.find?, h, h3]⟩
theorem textAt_cases (ts : List S64) (p : Int) : (textAt ts p = -1 ∧ ts.find? (inT p) = none) ∨ ∃ (k : Nat) (x : S64), k < ts.length ∧ textAt ts p = k ∧ ts[k]? = some x ∧ ts.find? (inT p) = some x := by
  have := textAtGo_cases p ts 0
  simpa [textAt] using this

set_option maxHeartbeats 1000000 in
set_option maxRecDepth 100000 in
theorem inText_calls (v0 v1 v3 v4 v5 v6 : Value) (A : Option Addr) (c : Nat) (ts : List S64) (b e : Int) (w : World) (hr : Kd.C k64 w A ts.length ts) :
    Calls Try.prog 75 #[.agg #[v0, v1, .slice A ts.length c, v3, v4, v5, v6], .int .i64 b, .int .i64 e] w fun x w' => x = .returned (.bool (inTextB ts b e)) ∧ Below w.heap.size w w' := by
  have hu30 := Try.underlying30
  have hu64 := Try.underlying64
  have hm := Kd.C_max hr
  have HR := Aside0.mk hr
  clear hr
  rcases textAt_cases ts b with ⟨h1, h2⟩ | ⟨k, x, hk, h1, h2, h3⟩
  · go_enter Try.func75, Try.ntmps75
    go_wp2_with (go_at_call 25; refine (TextAt_calls _ _ _ _ _ _ _ _ _ _ _ (Kd.C_below HR.out (below_alloc (Below.refl _ _) _))).mono ?_; rintro ee w1 ⟨rfl, hb⟩)
    all_goals
      go_ret
      exact ⟨ret_bool (by simp [inTextB, h2]), below_step (below_alloc (Below.refl _ _) _) hb⟩
  · obtain ⟨ad, y, A3, c3, rfl, -, hy, h0, h4, h5, h6, -, -⟩ := el64 HR ⟨Below.refl _ _⟩ k hk
    rw [h2] at hy
    obtain rfl := Option.some.inj hy.out
    clear hy h0 h4 h6 h2
    have h3 := Aside0.mk h3
    go_enter Try.func75, Try.ntmps75
    go_wp2_with (go_at_call 25; refine (TextAt_calls _ _ _ _ _ _ _ _ _ _ _ (Kd.C_below HR.out (below_alloc (Below.refl _ _) _))).mono ?_; rintro ee w1 ⟨rfl, hb⟩; have hc := (bcell hb).1; replace h5 := pw_cell_below (below_step (below_alloc (Below.refl _ _) _) hb) h5)
    all_goals
      go_ret
      exact ⟨ret_bool (by rw [Bool.eq_iff_iff]; simp [inTextB, h3.out]; try omega), below_step (below_alloc (Below.refl _ _) _) hb⟩
def crossesB (a b : S39) : Bool := decide (a.f1 < b.f1 ∧ b.f1 < a.f2 ∧ a.f2 < b.f2)
set_option maxHeartbeats 1000000 in
set_option maxRecDepth 100000 in
theorem crosses_calls (a b : S39) (u v : Value) (w : World) :
    Calls Try.prog 76 #[.agg #[.string a.f0, .int .i64 a.f1, .int .i64 a.f2, u], .agg #[.string b.f0, .int .i64 b.f1, .int .i64 b.f2, v]] w fun x w' => x = .returned (.bool (crossesB a b)) ∧ Below w.heap.size w w' := by
  have hu39 := Try.underlying39
  go_enter Try.func76, Try.ntmps76
  go_wp2
  all_goals
    go_ret
    exact ⟨ret_bool (by rw [Bool.eq_iff_iff]; simp [crossesB]; try omega), by first | exact below_alloc (below_alloc (Below.refl _ _) _) _⟩
set_option maxHeartbeats 1000000 in
set_option maxRecDepth 100000 in
theorem within_calls (v0 v1 v3 v4 v5 v6 : Value) (A : Option Addr) (c : Nat) (ts : List S64) (b e : Int) (w : World) (hr : Kd.C k64 w A ts.length ts) :
    Calls Try.prog 82 #[.agg #[v0, v1, .slice A ts.length c, v3, v4, v5, v6], .int .i64 b, .int .i64 e] w fun x w' => x = .returned (.bool (ts.any fun t => decide (t.f1 ≤ b ∧ b < e ∧ e ≤ t.f2))) ∧ Below w.heap.size w w' := by
  have hu30 := Try.underlying30
  have hu64 := Try.underlying64
  have hm := Kd.C_max hr
  have HR := Aside0.mk hr
  clear hr
  go_enter Try.func82, Try.ntmps82
  go_wp2
  go_loopw [12] (fun i wr => ∃ k : Nat, k ≤ ts.length ∧ i = .int .i64 k ∧ Aside0 ((ts.any fun t => decide (t.f1 ≤ b ∧ b < e ∧ e ≤ t.f2)) = (ts.drop k).any fun t => decide (t.f1 ≤ b ∧ b < e ∧ e ≤ t.f2)) ∧ Aside0 (Below w.heap.size w wr)) (fun i _ => ts.length - (intOf i).toNat)
  case atStart => exact ⟨0, Nat.zero_le _, rfl, ⟨rfl⟩, ⟨(Below.refl _ _).alloc (Nat.le_refl _) _⟩⟩
  case round =>
    obtain ⟨k, hk, rfl, HN, HB⟩ := hrel
    by_cases hlt : k < ts.length
    · obtain ⟨ad, x, A3, c3, rfl, hd, -, h0, h1, h2, h3, -, -⟩ := el64 HR HB k hlt
      by_cases hx : x.f1 ≤ b ∧ b < e ∧ e ≤ x.f2
      · obtain ⟨hx1, hx2, hx3⟩ := hx
        go_wp2
        go_ret
        exact ⟨ret_bool (by rw [HN.out, hd.out, List.any_cons, decide_eq_true ⟨hx1, hx2, hx3⟩]; rfl), below_alloc HB.out _⟩
      · go_wp2
        all_goals first
          | (exfalso; apply hx; refine ⟨?_, ?_, ?_⟩ <;> assumption)
          | (go_roundw
             case rel => exact ⟨k + 1, by omega, by go_num, ⟨by rw [HN.out, hd.out, List.any_cons, decide_eq_false hx]; rfl⟩, ⟨below_alloc HB.out _⟩⟩
             case measure => simp [intOf]; omega)
    · go_wp2
      go_ret
      exact ⟨ret_bool (by rw [HN.out, List.drop_eq_nil_of_le (by omega)]; rfl), HB.out⟩
def noH : List Int → List ByteArray → Bool
  | [], _ => true
  | h :: hs, r :: rs => decide (h = -1) && r.toList.isEmpty && noH hs rs
  | _ :: _, [] => true
set_option maxHeartbeats 1000000 in
theorem noHeads_calls (A A' : Option Addr) (c c' : Nat) (hs : List Int) (rs : List ByteArray) (w : World) (hr : Kd.C (Kd.int .i64) w A hs.length hs) (hr' : Kd.C Kd.string w A' rs.length rs) (hl : hs.length ≤ rs.length) :
    Calls Try.prog 56 #[.slice A hs.length c, .slice A' rs.length c'] w fun x w' => x = .returned (.bool (noH hs rs)) ∧ w = w' := by
  have hm := Kd.C_max hr
  have hm' := Kd.C_max hr'
  have HR := Aside0.mk hr
  have HR' := Aside0.mk hr'
  clear hr hr'
  go_enter Try.func56, Try.ntmps56
  go_wp2
  go_loop [9] (fun i => ∃ k : Nat, k ≤ hs.length ∧ i = .int .i64 k ∧ Aside0 (noH hs rs = noH (hs.drop k) (rs.drop k))) (fun i => hs.length - (intOf i).toNat)
  case atStart => exact ⟨0, Nat.zero_le _, rfl, ⟨rfl⟩⟩
  case round =>
    obtain ⟨k, hk, rfl, HN⟩ := hrel
    by_cases hlt : k < hs.length
    · obtain ⟨ad, x, rfl, hd, -, h0⟩ := elI HR ⟨Below.refl _ _⟩ k hlt
      obtain ⟨ad', y, rfl, hd', -, h0'⟩ := elS HR' ⟨Below.refl _ _⟩ k (by omega)
      have hlt' : k < rs.length := by omega
      go_wp2
      all_goals first
        | (go_ret
           exact ⟨ret_bool (by rw [HN.out, hd.out, hd'.out]; simp_all [noH]), rfl⟩)
        | (go_round
           case rel => exact ⟨k + 1, by omega, by go_num, ⟨by rw [HN.out, hd.out, hd'.out]; simp_all [noH]⟩⟩
           case measure => simp [intOf]; omega)
    · go_wp2
      go_ret
      exact ⟨ret_bool (by rw [HN.out, List.drop_eq_nil_of_le (by omega)]; rfl), rfl⟩
def cmpP : List S70 → List S70 → Int
  | [], [] => 0
  | [], _ :: _ => -1
  | _ :: _, [] => 1
  | x :: a, y :: b => if cmpT x.f0 y.f0 != 0 then cmpT x.f0 y.f0 else if cmpT x.f1 y.f1 != 0 then cmpT x.f1 y.f1 else cmpP a b
theorem cmpP_end (a b : List S70) (k : Nat) (h : ¬ (k < a.length ∧ k < b.length)) (ha : k ≤ a.length) (hb : k ≤ b.length) : cmpP (a.drop k) (b.drop k) = cmpI a.length b.length := by
  cases e : a.drop k with
  | nil =>
    have h1 := congrArg List.length e
    cases e' : b.drop k with
    | nil =>
      have h2 := congrArg List.length e'
      simp at h1 h2
      unfold cmpP cmpI
      rw [if_neg (by omega), if_neg (by omega)]
    | cons y b' =>
      have h2 := congrArg List.length e'
      simp at h1 h2
      unfold cmpP cmpI
      rw [if_pos (by omega)]
  | cons x a' =>
    have h1 := congrArg List.length e
    cases e' : b.drop k with
    | nil =>
      have h2 := congrArg List.length e'
      simp at h1 h2
      unfold cmpP cmpI
      rw [if_neg (by omega), if_pos (by omega)]
    | cons y b' =>
      have h2 := congrArg List.length e'
      simp at h1 h2
      omega
def cmpR (a b : S39) : Int :=
  if cmpI a.f1 b.f1 != 0 then cmpI a.f1 b.f1 else if cmpI b.f2 a.f2 != 0 then cmpI b.f2 a.f2 else if cmpT a.f0 b.f0 != 0 then cmpT a.f0 b.f0 else cmpP a.f3 b.f3
set_option maxHeartbeats 2000000 in
set_option maxRecDepth 100000 in
theorem orderPairs_calls (A A' : Option Addr) (c c' : Nat) (hs rs : List S70) (w : World) (hr : Kd.C k70 w A hs.length hs) (hr' : Kd.C k70 w A' rs.length rs) :
    Calls Try.prog 47 #[.slice A hs.length c, .slice A' rs.length c'] w fun x w' => x = .returned (.int .i64 (cmpP hs rs)) ∧ Below w.heap.size w w' := by
  have hu70 := Try.underlying70
  have hm := Kd.C_max hr
  have hm' := Kd.C_max hr'
  have HR := Aside0.mk hr
  have HR' := Aside0.mk hr'
  clear hr hr'
  go_enter Try.func47, Try.ntmps47
  go_wp2
  go_loopw [5] (fun i wr => ∃ k : Nat, k ≤ hs.length ∧ k ≤ rs.length ∧ i = .int .i64 k ∧ Aside0 (cmpP hs rs = cmpP (hs.drop k) (rs.drop k)) ∧ Aside0 (Below w.heap.size w wr)) (fun i _ => hs.length - (intOf i).toNat)
  case atStart => exact ⟨0, Nat.zero_le _, Nat.zero_le _, rfl, ⟨rfl⟩, ⟨Below.refl _ _⟩⟩
  case round =>
    obtain ⟨k, hk, hk', rfl, HN, HB⟩ := hrel
    by_cases hlt : k < hs.length ∧ k < rs.length
    · obtain ⟨hlt, hlt'⟩ := hlt
      obtain ⟨ad, x, rfl, hd, -, h0, h1⟩ := el70 HR HB k hlt
      obtain ⟨ad', y, rfl, hd', -, h0', h1'⟩ := el70 HR' HB k (by omega)
      have hs1 : cmpP hs rs = if cmpT x.f0 y.f0 != 0 then cmpT x.f0 y.f0 else if cmpT x.f1 y.f1 != 0 then cmpT x.f1 y.f1 else cmpP (hs.drop (k + 1)) (rs.drop (k + 1)) := by rw [HN.out, hd.out, hd'.out, cmpP]
      have HS := Aside0.mk hs1
      clear hs1 HN hd hd'
      have g0 : (0 : Int) ≤ (k : Int) := by omega
      have g1 : ((k : Nat) : Int) < ((hs.length : Nat) : Int) := by omega
      have g2 : ((k : Nat) : Int) < ((rs.length : Nat) : Int) := by omega
      cases hc : cmpT x.f0 y.f0 != 0
      · cases hc1 : cmpT x.f1 y.f1 != 0
        · go_wp2
          go_quiet ((go_at_call 46; first | exact quiet_left (orderText_calls _ _ _) | exact quiet_add_left (orderText_calls _ _ _)))
          go_wp2
          go_quiet ((go_at_call 46; first | exact quiet_left (orderText_calls _ _ _) | exact quiet_add_left (orderText_calls _ _ _)))
          go_wp2
          go_roundw
          case rel => exact ⟨k + 1, by omega, by omega, by go_num, ⟨by rw [HS.out]; simp [hc, hc1]⟩, bel_drewN HB _⟩
          case measure => simp [intOf]; omega
        · go_wp2
          go_quiet ((go_at_call 46; first | exact quiet_left (orderText_calls _ _ _) | exact quiet_add_left (orderText_calls _ _ _)))
          go_wp2
          go_quiet ((go_at_call 46; first | exact quiet_left (orderText_calls _ _ _) | exact quiet_add_left (orderText_calls _ _ _)))
          go_wp2
          go_ret
          exact ⟨ret_int (by rw [HS.out]; simp [hc, hc1]), (bel_drewN HB _).out⟩
      · go_wp2
        go_quiet ((go_at_call 46; first | exact quiet_left (orderText_calls _ _ _) | exact quiet_add_left (orderText_calls _ _ _)))
        go_wp2
        go_ret
        exact ⟨ret_int (by rw [HS.out]; simp [hc]), (bel_drewN HB _).out⟩
    · have HE := Aside0.mk (HN.out.trans (cmpP_end hs rs k hlt hk hk'))
      by_cases hlt1 : k < hs.length
      · have hlt2 : decide (k < rs.length) = false := decide_eq_false (fun h => hlt ⟨hlt1, h⟩)
        go_wp2_with (go_at_call 45; refine (order_calls _ _ _).mono ?_; rintro e w' ⟨rfl, rfl⟩)
        go_ret
        exact ⟨ret_int HE.out.symm, HB.out⟩
      · go_wp2_with (go_at_call 45; refine (order_calls _ _ _).mono ?_; rintro e w' ⟨rfl, rfl⟩)
        go_ret
        exact ⟨ret_int HE.out.symm, HB.out⟩
set_option maxHeartbeats 2000000 in
set_option maxRecDepth 100000 in
theorem CompareRegions_calls (a b : S39) (A A' : Option Addr) (c c' : Nat) (w : World) (hr : Kd.C k70 w A a.f3.length a.f3) (hr' : Kd.C k70 w A' b.f3.length b.f3) :
    Calls Try.prog 18 #[.agg #[.string a.f0, .int .i64 a.f1, .int .i64 a.f2, .slice A a.f3.length c], .agg #[.string b.f0, .int .i64 b.f1, .int .i64 b.f2, .slice A' b.f3.length c']] w fun x w' => x = .returned (.int .i64 (cmpR a b)) ∧ Below w.heap.size w w' := by
  have hu39 := Try.underlying39
  have HR := Aside0.mk hr
  have HR' := Aside0.mk hr'
  have HS : Aside0 (cmpR a b = if cmpI a.f1 b.f1 != 0 then cmpI a.f1 b.f1 else if cmpI b.f2 a.f2 != 0 then cmpI b.f2 a.f2 else if cmpT a.f0 b.f0 != 0 then cmpT a.f0 b.f0 else cmpP a.f3 b.f3) := ⟨rfl⟩
  clear hr hr'
  go_enter Try.func18, Try.ntmps18
  cases h1 : cmpI a.f1 b.f1 != 0
  · cases h2 : cmpI b.f2 a.f2 != 0
    · cases h3 : cmpT a.f0 b.f0 != 0
      · go_wp2_with (first | (go_at_call 45; refine (order_calls _ _ _).mono ?_; rintro e w' ⟨rfl, rfl⟩) | (go_at_call 46; refine (orderText_calls _ _ _).mono ?_; rintro e w' ⟨rfl, rfl⟩) | (go_at_call 47; refine (orderPairs_calls _ _ _ _ _ _ _ (Kd.C_below HR.out (below_alloc (below_alloc (Below.refl _ _) _) _)) (Kd.C_below HR'.out (below_alloc (below_alloc (Below.refl _ _) _) _))).mono ?_; rintro ee w1 ⟨rfl, hb⟩))
        go_ret
        exact ⟨ret_int (by rw [HS.out]; simp [h1, h2, h3]), below_step (below_alloc (below_alloc (Below.refl _ _) _) _) hb⟩
      · go_wp2_with (first | (go_at_call 45; refine (order_calls _ _ _).mono ?_; rintro e w' ⟨rfl, rfl⟩) | (go_at_call 46; refine (orderText_calls _ _ _).mono ?_; rintro e w' ⟨rfl, rfl⟩))
        go_ret
        exact ⟨ret_int (by rw [HS.out]; simp [h1, h2, h3]), below_alloc (below_alloc (Below.refl _ _) _) _⟩
    · go_wp2_with (go_at_call 45; refine (order_calls _ _ _).mono ?_; rintro e w' ⟨rfl, rfl⟩)
      go_ret
      exact ⟨ret_int (by rw [HS.out]; simp [h1, h2]), below_alloc (below_alloc (Below.refl _ _) _) _⟩
  · go_wp2_with (go_at_call 45; refine (order_calls _ _ _).mono ?_; rintro e w' ⟨rfl, rfl⟩)
    go_ret
    exact ⟨ret_int (by rw [HS.out]; simp [h1]), below_alloc (below_alloc (Below.refl _ _) _) _⟩
def par (l : List S74) (i : Int) : Int := (rd_T74 l i).f3
def ancGo (l : List S74) (p : Int) : Nat → Int → Int
  | 0, i => i
  | n + 1, i => if 0 ≤ i ∧ i ≠ p then ancGo l p n (par l i) else i
def isAnc (l : List S74) (p i : Int) : Bool := decide (ancGo l p (i + 1).toNat i = p)
set_option maxHeartbeats 2000000 in
set_option maxRecDepth 100000 in
theorem isAncestor_calls (A : Option Addr) (c : Nat) (l : List S74) (p i : Int) (w : World) (hr : Kd.C k74 w A l.length l) (hi : i < l.length) (hp : ∀ j : Int, 0 ≤ j → j ≤ i → par l j < j) :
    Calls Try.prog 77 #[.slice A l.length c, .int .i64 p, .int .i64 i] w fun x w' => x = .returned (.bool (isAnc l p i)) ∧ w = w' := by
  have hu74 := Try.underlying74
  have hm := Kd.C_max hr
  have HR := Aside0.mk hr
  have HP := Aside0.mk hp
  clear hr hp
  go_enter Try.func77, Try.ntmps77
  go_wp2
  go_loop [2] (fun v => ∃ (j : Int) (n : Nat), v = .int .i64 j ∧ j ≤ i ∧ j < n ∧ Aside0 (isAnc l p i = decide (ancGo l p n j = p))) (fun v => (intOf v + 1).toNat)
  case atStart => exact ⟨i, (i + 1).toNat, rfl, by omega, by omega, ⟨rfl⟩⟩
  case round =>
    obtain ⟨j, n, rfl, hj, hn, HN⟩ := hrel
    by_cases h0 : 0 ≤ j
    · have hq := HP.out j h0 hj
      obtain ⟨ad, x, rfl, hd, hx, g0, g1, g2, g3⟩ := el74 HR ⟨Below.refl _ _⟩ j.toNat (by omega)
      by_cases hjp : j = p
      · subst hjp
        go_wp2
        go_ret
        refine ⟨ret_bool ?_, rfl⟩
        rw [HN.out]
        cases n with
        | zero => simp [ancGo]
        | succ n => simp [ancGo]
      · go_wp2
        go_round
        case rel =>
          obtain ⟨n, rfl⟩ : ∃ m, n = m + 1 := ⟨n - 1, by omega⟩
          have e : x.f3 = par l j := by unfold par rd_T74; rw [List.getD_eq_getElem?_getD, hx.out]; rfl
          exact ⟨x.f3, n, rfl, by omega, by omega, ⟨by rw [HN.out, ancGo, if_pos ⟨h0, hjp⟩, e]⟩⟩
        case measure =>
          have e : x.f3 = par l j := by unfold par rd_T74; rw [List.getD_eq_getElem?_getD, hx.out]; rfl
          simp [intOf]; omega
    · go_wp2
      go_ret
      refine ⟨ret_bool ?_, rfl⟩
      rw [HN.out]
      have e : ancGo l p n j = j := by
        cases n with
        | zero => rfl
        | succ n => rw [ancGo, if_neg (fun h => absurd h.1 (by omega))]
      rw [e, Bool.eq_iff_iff]
      simp
theorem cmpI_ne (a b : Int) : (cmpI a b != 0) = (a != b) := by
  unfold cmpI
  by_cases h : a < b
  · rw [if_pos h]; simp; omega
  · rw [if_neg h]
    by_cases h' : b < a
    · rw [if_pos h']; simp; omega
    · rw [if_neg h']; simp; omega
theorem bytesLess_irrefl : ∀ l : List UInt8, Op.bytesLess l l = false
  | [] => by simp [Op.bytesLess]
  | a :: l => by simp [Op.bytesLess, bytesLess_irrefl l]
theorem cmpT_ne (a b : ByteArray) : (cmpT a b != 0) = (!(a.toList == b.toList)) := by
  unfold cmpT
  by_cases h : Op.bytesLess a.toList b.toList = true
  · rw [if_pos h]
    by_cases h' : a.toList = b.toList
    · rw [h', bytesLess_irrefl] at h; cases h
    · simp [h']
  · rw [if_neg h]
    by_cases h' : a.toList = b.toList
    · simp [h']
    · simp [h']
theorem cmpI_sign {a b : Int} (h : (a != b) = true) : cmpI a b = if decide (a < b) = true then -1 else 1 := by
  have : a ≠ b := by simpa using h
  unfold cmpI
  by_cases h : a < b
  · simp [h]
  · rw [if_neg h, if_pos (by omega), if_neg (by simpa using h)]
set_option maxHeartbeats 4000000 in
set_option maxRecDepth 100000 in
theorem rCompareRegions_calls (a b : S39) (A A' : Option Addr) (c c' : Nat) (w : World) (hr : Kd.C k70 w A a.f3.length a.f3) (hr' : Kd.C k70 w A' b.f3.length b.f3) :
    Calls Try.prog 19 #[.agg #[.string a.f0, .int .i64 a.f1, .int .i64 a.f2, .slice A a.f3.length c], .agg #[.string b.f0, .int .i64 b.f1, .int .i64 b.f2, .slice A' b.f3.length c']] w fun x w' => x = .returned (.int .i64 (cmpR a b)) ∧ Below w.heap.size w w' := by
  have hu39 := Try.underlying39
  have hu70 := Try.underlying70
  have hm := Kd.C_max hr
  have hm' := Kd.C_max hr'
  have HR := Aside0.mk hr
  have HR' := Aside0.mk hr'
  have HS : Aside0 (cmpR a b = if a.f1 != b.f1 then cmpI a.f1 b.f1 else if b.f2 != a.f2 then cmpI b.f2 a.f2 else if !(a.f0.toList == b.f0.toList) then cmpT a.f0 b.f0 else cmpP a.f3 b.f3) := ⟨by unfold cmpR; rw [cmpI_ne, cmpI_ne, cmpT_ne]⟩
  clear hr hr'
  go_enter Try.func19, Try.ntmps19
  rcases Int.lt_trichotomy a.f1 b.f1 with h1 | h1 | h1
  · go_wp2_with (go_at_call 48; refine (sign_calls _ _).mono ?_; rintro e w' ⟨rfl, rfl⟩)
    go_ret
    exact ⟨ret_int (by rw [HS.out, if_pos (by simp; omega)]; simp [cmpI, h1]), below_alloc (below_alloc (Below.refl _ _) _) _⟩
  · rcases Int.lt_trichotomy a.f2 b.f2 with h2 | h2 | h2
    · go_wp2_with (go_at_call 48; refine (sign_calls _ _).mono ?_; rintro e w' ⟨rfl, rfl⟩)
      go_ret
      exact ⟨ret_int (by rw [HS.out, if_neg (by simp; omega), if_pos (by simp; omega)]; unfold cmpI; rw [if_neg (by omega), if_pos (by omega)]), below_alloc (below_alloc (Below.refl _ _) _) _⟩
    · cases h3 : a.f0.toList == b.f0.toList
      · go_wp2_with (go_at_call 49; refine (compare_calls _ _ _).mono ?_; rintro e w' ⟨rfl, rfl⟩)
        go_ret
        exact ⟨ret_int (by rw [HS.out, if_neg (by simp; omega), if_neg (by simp; omega), if_pos (by rw [h3]; rfl)]), below_alloc (below_alloc (Below.refl _ _) _) _⟩
      · replace HS := Aside0.mk (HS.out.trans (by rw [if_neg (by simp; omega), if_neg (by simp; omega), if_neg (by rw [h3]; decide)] : _ = cmpP a.f3 b.f3))
        go_wp2
        go_loopw [5] (fun i wr => ∃ k : Nat, k ≤ a.f3.length ∧ k ≤ b.f3.length ∧ i = .int .i64 k ∧ Aside0 (cmpR a b = cmpP (a.f3.drop k) (b.f3.drop k)) ∧ wr.cell? ⟨w.heap.size, 3, none⟩ = some (.slice A a.f3.length c) ∧ wr.cell? ⟨w.heap.size + 1, 3, none⟩ = some (.slice A' b.f3.length c') ∧ Aside0 (Below w.heap.size w wr)) (fun i _ => a.f3.length - (intOf i).toNat)
        case atStart => exact ⟨0, Nat.zero_le _, Nat.zero_le _, rfl, HS, by go_simp, by go_simp, bel_alloc (bel_alloc (bel_refl _) _) _⟩
        case round =>
          obtain ⟨k, hk, hk', rfl, HN, hc3, hd3, HB⟩ := hrel
          clear HS
          by_cases hlt : k < a.f3.length ∧ k < b.f3.length
          · obtain ⟨hlt, hlt'⟩ := hlt
            obtain ⟨ad, x, rfl, hd, -, h0, h1⟩ := el70 HR HB k hlt
            obtain ⟨ad', y, rfl, hd', -, h0', h1'⟩ := el70 HR' HB k (by omega)
            have hs1 : cmpR a b = if cmpT x.f0 y.f0 != 0 then cmpT x.f0 y.f0 else if cmpT x.f1 y.f1 != 0 then cmpT x.f1 y.f1 else cmpP (a.f3.drop (k + 1)) (b.f3.drop (k + 1)) := by rw [HN.out, hd.out, hd'.out, cmpP]
            rw [cmpT_ne, cmpT_ne] at hs1
            have HS := Aside0.mk hs1
            clear hs1 HN hd hd'
            have g0 : (0 : Int) ≤ (k : Int) := by omega
            have g1 : ((k : Nat) : Int) < ((a.f3.length : Nat) : Int) := by omega
            have g2 : ((k : Nat) : Int) < ((b.f3.length : Nat) : Int) := by omega
            cases hx : x.f0.toList == y.f0.toList
            · go_wp2
              go_quiet (fail)
              go_wp2
              go_quiet ((go_at_call 49; first | exact quiet_left (compare_calls _ _ _) | exact quiet_add_left (compare_calls _ _ _)))
              go_wp2
              go_ret
              exact ⟨ret_int (by rw [HS.out, hx]; rfl), by repeat (first | exact HB.out | apply pw_below_drewN)⟩
            · cases hx1 : x.f1.toList == y.f1.toList
              · go_wp2
                go_quiet (fail)
                go_wp2
                go_quiet (fail)
                go_wp2
                go_quiet ((go_at_call 49; first | exact quiet_left (compare_calls _ _ _) | exact quiet_add_left (compare_calls _ _ _)))
                go_wp2
                go_ret
                exact ⟨ret_int (by rw [HS.out, hx, hx1]; rfl), by repeat (first | exact HB.out | apply pw_below_drewN)⟩
              · go_wp2
                go_quiet (fail)
                go_wp2
                go_quiet (fail)
                go_wp2
                go_roundw
                case rel => exact ⟨k + 1, by omega, by omega, by go_num, ⟨by rw [HS.out, hx, hx1]; rfl⟩, by go_simp, by go_simp, bel_drewN HB _⟩
                case measure => simp [intOf]; omega
          · have HE := Aside0.mk (HN.out.trans (cmpP_end a.f3 b.f3 k hlt hk hk'))
            clear HN
            rcases Nat.lt_trichotomy a.f3.length b.f3.length with g | g | g
            · have hlt1 : decide (k < a.f3.length) = false := decide_eq_false (fun h => hlt ⟨h, by omega⟩)
              go_wp2_with (go_at_call 48; refine (sign_calls _ _).mono ?_; rintro e w' ⟨rfl, rfl⟩)
              go_ret
              exact ⟨ret_int (by rw [HE.out]; unfold cmpI; rw [if_pos (by omega)]), HB.out⟩
            · have hlt1 : decide (k < a.f3.length) = false := decide_eq_false (fun h => hlt ⟨h, by omega⟩)
              have G := Aside0.mk g
              have g' : ((a.f3.length : Int) != (b.f3.length : Int)) = false := by rw [g]; simp
              clear g
              go_wp2_with (go_at_call 48; refine (sign_calls _ _).mono ?_; rintro e w' ⟨rfl, rfl⟩)
              go_ret
              exact ⟨ret_int (by rw [HE.out, G.out]; unfold cmpI; rw [if_neg (by omega), if_neg (by omega)]), HB.out⟩
            · by_cases hlt1 : k < a.f3.length
              · have hlt2 : decide (k < b.f3.length) = false := decide_eq_false (fun h => hlt ⟨hlt1, h⟩)
                go_wp2_with (go_at_call 48; refine (sign_calls _ _).mono ?_; rintro e w' ⟨rfl, rfl⟩)
                go_ret
                exact ⟨ret_int (by rw [HE.out]; unfold cmpI; rw [if_neg (by omega), if_pos (by omega)]), HB.out⟩
              · exfalso; omega
    · go_wp2_with (go_at_call 48; refine (sign_calls _ _).mono ?_; rintro e w' ⟨rfl, rfl⟩)
      go_ret
      exact ⟨ret_int (by rw [HS.out, if_neg (by simp; omega), if_pos (by simp; omega)]; simp [cmpI, h2]), below_alloc (below_alloc (Below.refl _ _) _) _⟩
  · go_wp2_with (go_at_call 48; refine (sign_calls _ _).mono ?_; rintro e w' ⟨rfl, rfl⟩)
    go_ret
    exact ⟨ret_int (by rw [HS.out, if_pos (by simp; omega)]; unfold cmpI; rw [if_neg (by omega), if_pos (by omega)]), below_alloc (below_alloc (Below.refl _ _) _) _⟩
end Go.Proofs.Ytkdgholmfnidkaa
