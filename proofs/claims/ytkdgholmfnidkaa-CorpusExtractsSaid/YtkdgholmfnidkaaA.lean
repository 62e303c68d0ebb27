/- The small functions of this seat: what each call returns. -/
import Derived.Test.YtkdgholmfnidkaaBase
import Derived.WalkLawsBesides
namespace Go.Proofs.Ytkdgholmfnidkaa
open Go.RowKit Go.Proofs.YtkdgholmfnidkaaW.PrintWords Go.Proofs.YtkdgholmfnidkaaW.PrintLast Go.Proofs.YtkdgholmfnidkaaW.PrintMore

def isB (c : Int) : Bool := decide (65 ≤ c ∧ c ≤ 90 ∨ 97 ≤ c ∧ c ≤ 122 ∨ c = 95)
def isN (c : Int) : Bool := isB c || decide (48 ≤ c ∧ c ≤ 57 ∨ c = 45)
def cmpI (a b : Int) : Int := if a < b then -1 else if b < a then 1 else 0
def cmpT (a b : ByteArray) : Int := if Op.bytesLess a.toList b.toList then -1 else if a.toList == b.toList then 0 else 1

theorem begins_calls (c : Int) (w : World) : Calls Try.prog 86 #[.int .u8 c] w fun e w' => e = .returned (.bool (isB c)) ∧ w = w' := by
  go_enter Try.func86, Try.ntmps86
  go_wp2
  all_goals
    go_ret
    exact ⟨ret_bool (by rw [Bool.eq_iff_iff]; simp [isB]; omega), rfl⟩
theorem First_calls (c : Int) (w : World) : Calls Try.prog 90 #[.int .u8 c] w fun e w' => e = .returned (.bool (isB c)) ∧ w = w' := by
  go_enter Try.func90, Try.ntmps90
  go_wp2
  all_goals
    go_ret
    exact ⟨ret_bool (by rw [Bool.eq_iff_iff]; simp [isB]; omega), rfl⟩
theorem goesOn_calls (c : Int) (w : World) : Calls Try.prog 87 #[.int .u8 c] w fun e w' => e = .returned (.bool (isN c)) ∧ w = w' := by
  go_enter Try.func87, Try.ntmps87
  go_wp2_with (go_at_call 86; refine (begins_calls _ _).mono ?_; rintro e w' ⟨rfl, rfl⟩)
  all_goals
    go_ret
    exact ⟨ret_bool (by simp only [isN, *]; rw [Bool.eq_iff_iff]; simp; try omega), rfl⟩
theorem Next_calls (c : Int) (w : World) : Calls Try.prog 91 #[.int .u8 c] w fun e w' => e = .returned (.bool (isN c)) ∧ w = w' := by
  go_enter Try.func91, Try.ntmps91
  go_wp2_with (go_at_call 90; refine (First_calls _ _).mono ?_; rintro e w' ⟨rfl, rfl⟩)
  all_goals
    go_ret
    exact ⟨ret_bool (by simp only [isN, *]; rw [Bool.eq_iff_iff]; simp; try omega), rfl⟩
theorem order_calls (a b : Int) (w : World) : Calls Try.prog 45 #[.int .i64 a, .int .i64 b] w fun e w' => e = .returned (.int .i64 (cmpI a b)) ∧ w = w' := by
  go_enter Try.func45, Try.ntmps45
  go_wp2
  all_goals
    go_ret
    exact ⟨ret_int (by unfold cmpI; first | rw [if_pos (by omega)] | (rw [if_neg (by omega)]; first | rw [if_pos (by omega)] | rw [if_neg (by omega)])), rfl⟩
theorem orderText_calls (a b : ByteArray) (w : World) : Calls Try.prog 46 #[.string a, .string b] w fun e w' => e = .returned (.int .i64 (cmpT a b)) ∧ w = w' := by
  go_enter Try.func46, Try.ntmps46
  go_wp2
  all_goals
    go_ret
    exact ⟨ret_int (by simp_all [cmpT]), rfl⟩
theorem compare_calls (a b : ByteArray) (w : World) : Calls Try.prog 49 #[.string a, .string b] w fun e w' => e = .returned (.int .i64 (cmpT a b)) ∧ w = w' := by
  go_enter Try.func49, Try.ntmps49
  go_wp2
  all_goals
    go_ret
    exact ⟨ret_int (by simp_all [cmpT]), rfl⟩
theorem sign_calls (b : Bool) (w : World) : Calls Try.prog 48 #[.bool b] w fun e w' => e = .returned (.int .i64 (if b = true then -1 else 1)) ∧ w = w' := by
  cases b
  all_goals
    go_enter Try.func48, Try.ntmps48
    go_wp2
    go_ret
    exact ⟨rfl, rfl⟩
def inT (p : Int) (t : S64) : Bool := decide (t.f1 ≤ p) && decide (p < t.f2)
def textAtGo (p : Int) : List S64 → Nat → Int
  | [], _ => -1
  | t :: ts, k => if inT p t then k else textAtGo p ts (k + 1)
def textAt (ts : List S64) (p : Int) : Int := textAtGo p ts 0
def findGo (n : ByteArray) : List S64 → Nat → Int
  | [], _ => -1
  | t :: ts, k => if t.f0.toList == n.toList then k else findGo n ts (k + 1)
def findText (ts : List S64) (n : ByteArray) : Int := findGo n ts 0
set_option maxHeartbeats 1000000 in
set_option maxRecDepth 100000 in
theorem TextAt_calls (v0 v1 v3 v4 v5 v6 : Value) (A : Option Addr) (c : Nat) (ts : List S64) (p : Int) (w : World) (hr : Kd.C k64 w A ts.length ts) :
    Calls Try.prog 25 #[.agg #[v0, v1, .slice A ts.length c, v3, v4, v5, v6], .int .i64 p] w fun e w' => e = .returned (.int .i64 (textAt ts p)) ∧ Below w.heap.size w w' := by
  have hu30 := Try.underlying30
  have hu64 := Try.underlying64
  have hm := Kd.C_max hr
  have HR := Aside0.mk hr
  clear hr
  go_enter Try.func25, Try.ntmps25
  go_wp2
  go_loopw [10] (fun i wr => ∃ k : Nat, k ≤ ts.length ∧ i = .int .i64 k ∧ Aside0 (textAt ts p = textAtGo p (ts.drop k) k) ∧ Aside0 (Below w.heap.size w wr)) (fun i _ => ts.length - (intOf i).toNat)
  case atStart => exact ⟨0, Nat.zero_le _, rfl, ⟨rfl⟩, ⟨(Below.refl _ _).alloc (Nat.le_refl _) _⟩⟩
  case round =>
    obtain ⟨k, hk, rfl, HN, HB⟩ := hrel
    by_cases hlt : k < ts.length
    · obtain ⟨ad, x, A3, c3, rfl, hd, -, h0, h1, h2, h3, -, -⟩ := el64 HR HB k hlt
      go_wp2
      · go_ret
        exact ⟨ret_int (by rw [HN.out, hd.out, textAtGo, if_pos (by simp [inT]; omega)]), below_alloc HB.out _⟩
      all_goals
        go_roundw
        case rel => exact ⟨k + 1, by omega, by go_num, ⟨by rw [HN.out, hd.out, textAtGo, if_neg (by simp [inT]; omega)]⟩, ⟨below_alloc HB.out _⟩⟩
        case measure => simp [intOf]; omega
    · go_wp2
      go_ret
      exact ⟨ret_int (by rw [HN.out, List.drop_eq_nil_of_le (by omega)]; rfl), HB.out⟩
set_option maxHeartbeats 1000000 in
set_option maxRecDepth 100000 in
theorem FindText_calls (v0 v1 v3 v4 v5 v6 : Value) (A : Option Addr) (c : Nat) (ts : List S64) (p : ByteArray) (w : World) (hr : Kd.C k64 w A ts.length ts) :
    Calls Try.prog 23 #[.agg #[v0, v1, .slice A ts.length c, v3, v4, v5, v6], .string p] w fun e w' => e = .returned (.int .i64 (findText ts p)) ∧ Below w.heap.size w w' := by
  have hu30 := Try.underlying30
  have hu64 := Try.underlying64
  have hm := Kd.C_max hr
  have HR := Aside0.mk hr
  clear hr
  go_enter Try.func23, Try.ntmps23
  go_wp2
  go_loopw [10] (fun i wr => ∃ k : Nat, k ≤ ts.length ∧ i = .int .i64 k ∧ Aside0 (findText ts p = findGo p (ts.drop k) k) ∧ Aside0 (Below w.heap.size w wr)) (fun i _ => ts.length - (intOf i).toNat)
  case atStart => exact ⟨0, Nat.zero_le _, rfl, ⟨rfl⟩, ⟨(Below.refl _ _).alloc (Nat.le_refl _) _⟩⟩
  case round =>
    obtain ⟨k, hk, rfl, HN, HB⟩ := hrel
    by_cases hlt : k < ts.length
    · obtain ⟨ad, x, A3, c3, rfl, hd, -, h0, h1, h2, h3, -, -⟩ := el64 HR HB k hlt
      go_wp2
      · go_ret
        exact ⟨ret_int (by rw [HN.out, hd.out, findGo, if_pos (by assumption)]), below_alloc HB.out _⟩
      · go_roundw
        case rel => exact ⟨k + 1, by omega, by go_num, ⟨by rw [HN.out, hd.out, findGo, if_neg (by simp [*])]⟩, ⟨below_alloc HB.out _⟩⟩
        case measure => simp [intOf]; omega
    · go_wp2
      go_ret
      exact ⟨ret_int (by rw [HN.out, List.drop_eq_nil_of_le (by omega)]; rfl), HB.out⟩
theorem drop_bytes (s : ByteArray) (k : Nat) (h : k < s.size) : (bytesOf s).drop k = (s[k].toNat : Int) :: (bytesOf s).drop (k + 1) := by
  have h' : k < (bytesOf s).length := by rw [bytesOf_length]; exact h
  rw [List.drop_eq_getElem_cons h']
  simp [bytesOf]
  rfl
def validN : List Int → Bool
  | [] => false
  | c :: l => decide (l.length < 32) && isB c && l.all isN
theorem isN_of_isB {c : Int} (h : isB c = true) : isN c = true := by simp [isN, h]
def validName (s : ByteArray) : Bool := validN (bytesOf s)
theorem validName_long {s : ByteArray} (h : 32 < s.size) : validName s = false := by
  unfold validName
  have := bytesOf_length s
  cases e : bytesOf s with
  | nil => rfl
  | cons c l => rw [e] at this; simp [validN] at this ⊢; omega
theorem validName_none {s : ByteArray} (h : s.size < 1) : validName s = false := by
  unfold validName
  have := bytesOf_length s
  cases e : bytesOf s with
  | nil => rfl
  | cons c l => rw [e] at this; simp at this; omega
theorem validName_head {s : ByteArray} (h : 0 < s.size) (h' : isB (s[0].toNat : Int) = false) : validName s = false := by
  unfold validName
  have := drop_bytes s 0 h
  rw [List.drop_zero] at this
  rw [this]
  simp [validN, h']
theorem validName_all {s : ByteArray} (h : 0 < s.size) (h1 : s.size ≤ 32) (h' : isB (s[0].toNat : Int) = true) : validName s = (bytesOf s).all isN := by
  unfold validName
  have := drop_bytes s 0 h
  have hl := bytesOf_length s
  rw [List.drop_zero] at this
  rw [this] at hl ⊢
  simp only [List.length_cons] at hl
  simp only [validN, h', List.all_cons, isN_of_isB h', decide_eq_true (show List.length (List.drop (0 + 1) (bytesOf s)) < 32 by omega)]
  simp
theorem validName_tail {s : ByteArray} (h : 0 < s.size) (h1 : s.size ≤ 32) (h' : isB (s[0].toNat : Int) = true) : validName s = ((bytesOf s).drop 1).all isN := by
  rw [validName_all h h1 h']
  have := drop_bytes s 0 h
  rw [List.drop_zero] at this
  rw [this]
  simp [isN_of_isB h']
set_option maxHeartbeats 1000000 in
theorem ValidName_calls (s : ByteArray) (w : World) (hs : s.size ≤ 9223372036854775807) : Calls Try.prog 72 #[.string s] w fun e w' => e = .returned (.bool (validName s)) ∧ w = w' := by
  by_cases h0 : s.size < 1
  · go_enter Try.func72, Try.ntmps72
    go_wp2
    go_ret
    exact ⟨ret_bool (validName_none h0).symm, rfl⟩
  by_cases h1 : 32 < s.size
  · go_enter Try.func72, Try.ntmps72
    go_wp2
    go_ret
    exact ⟨ret_bool (validName_long h1).symm, rfl⟩
  have hp : 0 < s.size := by omega
  cases hb : isB (s[0].toNat : Int)
  · go_enter Try.func72, Try.ntmps72
    go_wp2_with (go_at_call 86; refine (begins_calls _ _).mono ?_; rintro e w' ⟨rfl, rfl⟩)
    go_ret
    exact ⟨ret_bool (validName_head hp hb).symm, rfl⟩
  · have HV := Aside0.mk (validName_all hp (by omega) hb)
    go_enter Try.func72, Try.ntmps72
    go_wp2_with (go_at_call 86; refine (begins_calls _ _).mono ?_; rintro e w' ⟨rfl, rfl⟩)
    go_loop [20] (fun i => ∃ k : Nat, k ≤ s.size ∧ i = .int .i64 k ∧ Aside0 (validName s = ((bytesOf s).drop k).all isN)) (fun i => s.size - (intOf i).toNat)
    case atStart => exact ⟨0, Nat.zero_le _, rfl, HV⟩
    case round =>
      obtain ⟨k, hk, rfl, HN⟩ := hrel
      by_cases hlt : k < s.size
      · have hd := Aside0.mk (drop_bytes s k hlt)
        cases hc : isN (s[k].toNat : Int)
        · go_wp2_with (go_at_call 87; refine (goesOn_calls _ _).mono ?_; rintro e w' ⟨rfl, rfl⟩)
          go_ret
          exact ⟨ret_bool (by rw [HN.out, hd.out]; simp [hc]), rfl⟩
        · go_wp2_with (go_at_call 87; refine (goesOn_calls _ _).mono ?_; rintro e w' ⟨rfl, rfl⟩)
          go_round
          case rel => exact ⟨k + 1, by omega, by go_num, ⟨by rw [HN.out, hd.out]; simp [hc]⟩⟩
          case measure => simp [intOf]; omega
      · go_wp2
        go_ret
        exact ⟨ret_bool (by rw [HN.out, List.drop_eq_nil_of_le (by rw [bytesOf_length]; omega)]; rfl), rfl⟩
set_option maxHeartbeats 1000000 in
set_option maxRecDepth 100000 in
theorem rTextAt_calls (v0 v1 v3 v4 v5 v6 : Value) (A : Option Addr) (c : Nat) (ts : List S64) (p : Int) (w : World) (hr : Kd.C k64 w A ts.length ts) :
    Calls Try.prog 26 #[.agg #[v0, v1, .slice A ts.length c, v3, v4, v5, v6], .int .i64 p] w fun e w' => e = .returned (.int .i64 (textAt ts p)) ∧ Below w.heap.size w w' := by
  have hu30 := Try.underlying30
  have hu64 := Try.underlying64
  have hm := Kd.C_max hr
  have HR := Aside0.mk hr
  clear hr
  go_enter Try.func26, Try.ntmps26
  go_wp2
  go_loopw [10] (fun i wr => ∃ k : Nat, k ≤ ts.length ∧ i = .int .i64 k ∧ Aside0 (textAt ts p = textAtGo p (ts.drop k) k) ∧ Aside0 (Below w.heap.size w wr)) (fun i _ => ts.length - (intOf i).toNat)
  case atStart => exact ⟨0, Nat.zero_le _, rfl, ⟨rfl⟩, ⟨(Below.refl _ _).alloc (Nat.le_refl _) _⟩⟩
  case round =>
    obtain ⟨k, hk, rfl, HN, HB⟩ := hrel
    by_cases hlt : k < ts.length
    · obtain ⟨ad, x, A3, c3, rfl, hd, -, h0, h1, h2, h3, -, -⟩ := el64 HR HB k hlt
      go_wp2
      · go_ret
        exact ⟨ret_int (by rw [HN.out, hd.out, textAtGo, if_pos (by simp [inT]; omega)]), below_alloc HB.out _⟩
      all_goals
        go_roundw
        case rel => exact ⟨k + 1, by omega, by go_num, ⟨by rw [HN.out, hd.out, textAtGo, if_neg (by simp [inT]; omega)]⟩, ⟨below_alloc HB.out _⟩⟩
        case measure => simp [intOf]; omega
    · go_wp2
      go_ret
      exact ⟨ret_int (by rw [HN.out, List.drop_eq_nil_of_le (by omega)]; rfl), HB.out⟩
set_option maxHeartbeats 1000000 in
set_option maxRecDepth 100000 in
theorem rFindText_calls (v0 v1 v3 v4 v5 v6 : Value) (A : Option Addr) (c : Nat) (ts : List S64) (p : ByteArray) (w : World) (hr : Kd.C k64 w A ts.length ts) :
    Calls Try.prog 24 #[.agg #[v0, v1, .slice A ts.length c, v3, v4, v5, v6], .string p] w fun e w' => e = .returned (.int .i64 (findText ts p)) ∧ Below w.heap.size w w' := by
  have hu30 := Try.underlying30
  have hu64 := Try.underlying64
  have hm := Kd.C_max hr
  have HR := Aside0.mk hr
  clear hr
  go_enter Try.func24, Try.ntmps24
  go_wp2
  go_loopw [10] (fun i wr => ∃ k : Nat, k ≤ ts.length ∧ i = .int .i64 k ∧ Aside0 (findText ts p = findGo p (ts.drop k) k) ∧ Aside0 (Below w.heap.size w wr)) (fun i _ => ts.length - (intOf i).toNat)
  case atStart => exact ⟨0, Nat.zero_le _, rfl, ⟨rfl⟩, ⟨(Below.refl _ _).alloc (Nat.le_refl _) _⟩⟩
  case round =>
    obtain ⟨k, hk, rfl, HN, HB⟩ := hrel
    by_cases hlt : k < ts.length
    · obtain ⟨ad, x, A3, c3, rfl, hd, -, h0, h1, h2, h3, -, -⟩ := el64 HR HB k hlt
      go_wp2
      · go_ret
        exact ⟨ret_int (by rw [HN.out, hd.out, findGo, if_pos (by assumption)]), below_alloc HB.out _⟩
      · go_roundw
        case rel => exact ⟨k + 1, by omega, by go_num, ⟨by rw [HN.out, hd.out, findGo, if_neg (by simp [*])]⟩, ⟨below_alloc HB.out _⟩⟩
        case measure => simp [intOf]; omega
    · go_wp2
      go_ret
      exact ⟨ret_int (by rw [HN.out, List.drop_eq_nil_of_le (by omega)]; rfl), HB.out⟩
end Go.Proofs.Ytkdgholmfnidkaa
