/- Lists compared element by element: what the seven functions that do it return. -/
import Derived.Test.YtkdgholmfnidkaaR
namespace Go.Proofs.YtkdgholmfnidkaaW.PrintWords
open Go.RowKit Go.Proofs.Ytkdgholmfnidkaa
theorem eqA70 (d : Nat) (w : World) (x0 y0 : ByteArray) (x1 y1 : ByteArray) :
    (Op.equalIn (d + 2) 70 (.agg #[.string x0, .string x1]) (.agg #[.string y0, .string y1])).run Try.prog w = .ok (x0.toList == y0.toList && (x1.toList == y1.toList)) w := by
  refine eqA_of Try.underlying70 (by kernel_rfl) ?_
  refine eqf_cons (by rfl) (by go_simp; rfl) (by go_simp; rfl) (by go_simp) ?_
  exact eqf_last (by rfl) (by go_simp; rfl) (by go_simp; rfl) (by go_simp)
theorem eqA62 (d : Nat) (w : World) (x0 y0 : ByteArray) (x1 y1 : Bool) :
    (Op.equalIn (d + 2) 62 (.agg #[.string x0, .bool x1]) (.agg #[.string y0, .bool y1])).run Try.prog w = .ok (x0.toList == y0.toList && (x1 == y1)) w := by
  refine eqA_of Try.underlying62 (by kernel_rfl) ?_
  refine eqf_cons (by rfl) (by go_simp; rfl) (by go_simp; rfl) (by go_simp) ?_
  exact eqf_last (by rfl) (by go_simp; rfl) (by go_simp; rfl) (by go_simp)
theorem eqA74 (d : Nat) (w : World) (x0 y0 : ByteArray) (x1 y1 : Int) (x2 y2 : Int) (x3 y3 : Int) :
    (Op.equalIn (d + 2) 74 (.agg #[.string x0, .int .i64 x1, .int .i64 x2, .int .i64 x3]) (.agg #[.string y0, .int .i64 y1, .int .i64 y2, .int .i64 y3])).run Try.prog w = .ok (x0.toList == y0.toList && (x1 == y1 && (x2 == y2 && (x3 == y3)))) w := by
  refine eqA_of Try.underlying74 (by kernel_rfl) ?_
  refine eqf_cons (by rfl) (by go_simp; rfl) (by go_simp; rfl) (by go_simp) ?_
  refine eqf_cons (by rfl) (by go_simp; rfl) (by go_simp; rfl) (by go_simp) ?_
  refine eqf_cons (by rfl) (by go_simp; rfl) (by go_simp; rfl) (by go_simp) ?_
  exact eqf_last (by rfl) (by go_simp; rfl) (by go_simp; rfl) (by go_simp)
end Go.Proofs.YtkdgholmfnidkaaW.PrintWords
namespace Go.Proofs.Ytkdgholmfnidkaa
open Go.RowKit Go.Proofs.YtkdgholmfnidkaaW.PrintWords Go.Proofs.YtkdgholmfnidkaaW.PrintLast Go.Proofs.YtkdgholmfnidkaaW.PrintMore
attribute [local go_sem high] eqA70 eqA62 eqA74

def eqBy {α : Type} (f : α → α → Bool) : List α → List α → Bool
  | [], [] => true
  | a :: l, b :: m => f a b && eqBy f l m
  | _, _ => false
theorem eqBy_len {α : Type} {f : α → α → Bool} : ∀ {l m : List α}, eqBy f l m = true → l.length = m.length
  | [], [], _ => rfl
  | a :: l, b :: m, h => by
    simp only [eqBy, Bool.and_eq_true] at h
    simp [eqBy_len h.2]
  | [], _ :: _, h => by simp [eqBy] at h
  | _ :: _, [], h => by simp [eqBy] at h
theorem eqBy_ne {α : Type} {f : α → α → Bool} {l m : List α} (h : l.length ≠ m.length) : eqBy f l m = false := by
  cases e : eqBy f l m
  · rfl
  · exact absurd (eqBy_len e) h
def e70 (a b : S70) : Bool := a.f0.toList == b.f0.toList && a.f1.toList == b.f1.toList
def e62 (a b : S62) : Bool := a.f0.toList == b.f0.toList && a.f1 == b.f1
def e74 (a b : S74) : Bool := a.f0.toList == b.f0.toList && (a.f1 == b.f1 && (a.f2 == b.f2 && a.f3 == b.f3))
def eS (a b : ByteArray) : Bool := a.toList == b.toList
def eI (a b : Int) : Bool := a == b
set_option maxHeartbeats 4000000 in
set_option maxRecDepth 100000 in
theorem equalAttrs_calls (A A' : Option Addr) (c c' : Nat) (hs rs : List S62) (w : World) (hr : Kd.C k62 w A hs.length hs) (hr' : Kd.C k62 w A' rs.length rs) :
    Calls Try.prog 59 #[.slice A hs.length c, .slice A' rs.length c'] w fun e w' => e = .returned (.bool (eqBy e62 hs rs)) ∧ Below w.heap.size w w' := by
  have hm := Kd.C_max hr
  have hm' := Kd.C_max hr'
  have HR := Aside0.mk hr
  have HR' := Aside0.mk hr'
  clear hr hr'
  by_cases hl : hs.length = rs.length
  · have hlb : ((hs.length : Int) != (rs.length : Int)) = false := by rw [bne_eq_false_iff_eq]; omega
    have HL := Aside0.mk hl
    clear hl
    go_enter Try.func59, Try.ntmps59
    go_wp2
    go_loopw [13] (fun i wr => ∃ k : Nat, k ≤ hs.length ∧ i = .int .i64 k ∧ Aside0 (eqBy e62 hs rs = eqBy e62 (hs.drop k) (rs.drop k)) ∧ Aside0 (Below w.heap.size w wr)) (fun i _ => hs.length - (intOf i).toNat)
    case atStart => exact ⟨0, Nat.zero_le _, rfl, ⟨rfl⟩, bel_refl _⟩
    case round =>
      obtain ⟨k, hk, rfl, HN, HB⟩ := hrel
      by_cases hlt : k < hs.length
      · have hlt' : k < rs.length := by have := HL.out; omega
        obtain ⟨ad, x, rfl, hd, -, h0, h1⟩ := el62 HR HB k hlt
        obtain ⟨ad', y, rfl, hd', -, h0', h1'⟩ := el62 HR' HB k hlt'
        have HS : Aside0 (eqBy e62 hs rs = (e62 x y && eqBy e62 (hs.drop (k + 1)) (rs.drop (k + 1)))) := ⟨by rw [HN.out, hd.out, hd'.out, eqBy]⟩
        clear HN hd hd'
        cases hx : e62 x y
        · have hy := hx
          rw [e62] at hy
          go_wp2
          go_quiet (fail)
          go_wp2
          go_ret
          exact ⟨ret_bool (by rw [HS.out, hx]; rfl), by repeat (first | exact HB.out | apply pw_below_drewN)⟩
        · have hy := hx
          rw [e62] at hy
          go_wp2
          go_quiet (fail)
          go_wp2
          go_roundw
          case rel => exact ⟨k + 1, by omega, by go_num, ⟨by rw [HS.out, hx]; rfl⟩, bel_drewN HB _⟩
          case measure => simp [intOf]; omega
      · go_wp2
        go_ret
        exact ⟨ret_bool (by rw [HN.out, List.drop_eq_nil_of_le (by omega), List.drop_eq_nil_of_le (by have := HL.out; omega)]; rfl), HB.out⟩
  · have hlb : ((hs.length : Int) != (rs.length : Int)) = true := by rw [bne_iff_ne]; omega
    have HE : Aside0 (eqBy e62 hs rs = false) := ⟨eqBy_ne hl⟩
    clear hl
    go_enter Try.func59, Try.ntmps59
    go_wp2
    go_ret
    exact ⟨ret_bool HE.out.symm, Below.refl _ _⟩
set_option maxHeartbeats 4000000 in
set_option maxRecDepth 100000 in
theorem sameAttributes_calls (A A' : Option Addr) (c c' : Nat) (hs rs : List S62) (w : World) (hr : Kd.C k62 w A hs.length hs) (hr' : Kd.C k62 w A' rs.length rs) :
    Calls Try.prog 50 #[.slice A hs.length c, .slice A' rs.length c'] w fun e w' => e = .returned (.bool (eqBy e62 hs rs)) ∧ Below w.heap.size w w' := by
  have hm := Kd.C_max hr
  have hm' := Kd.C_max hr'
  have HR := Aside0.mk hr
  have HR' := Aside0.mk hr'
  clear hr hr'
  by_cases hl : hs.length = rs.length
  · have hlb : ((hs.length : Int) != (rs.length : Int)) = false := by rw [bne_eq_false_iff_eq]; omega
    have HL := Aside0.mk hl
    clear hl
    go_enter Try.func50, Try.ntmps50
    go_wp2
    go_loopw [13] (fun i wr => ∃ k : Nat, k ≤ hs.length ∧ i = .int .i64 k ∧ Aside0 (eqBy e62 hs rs = eqBy e62 (hs.drop k) (rs.drop k)) ∧ Aside0 (Below w.heap.size w wr)) (fun i _ => hs.length - (intOf i).toNat)
    case atStart => exact ⟨0, Nat.zero_le _, rfl, ⟨rfl⟩, bel_refl _⟩
    case round =>
      obtain ⟨k, hk, rfl, HN, HB⟩ := hrel
      by_cases hlt : k < hs.length
      · have hlt' : k < rs.length := by have := HL.out; omega
        obtain ⟨ad, x, rfl, hd, -, h0, h1⟩ := el62 HR HB k hlt
        obtain ⟨ad', y, rfl, hd', -, h0', h1'⟩ := el62 HR' HB k hlt'
        have HS : Aside0 (eqBy e62 hs rs = (e62 x y && eqBy e62 (hs.drop (k + 1)) (rs.drop (k + 1)))) := ⟨by rw [HN.out, hd.out, hd'.out, eqBy]⟩
        clear HN hd hd'
        cases hx : e62 x y
        · have hy := hx
          rw [e62] at hy
          go_wp2
          go_quiet (fail)
          go_wp2
          go_ret
          exact ⟨ret_bool (by rw [HS.out, hx]; rfl), by repeat (first | exact HB.out | apply pw_below_drewN)⟩
        · have hy := hx
          rw [e62] at hy
          go_wp2
          go_quiet (fail)
          go_wp2
          go_roundw
          case rel => exact ⟨k + 1, by omega, by go_num, ⟨by rw [HS.out, hx]; rfl⟩, bel_drewN HB _⟩
          case measure => simp [intOf]; omega
      · go_wp2
        go_ret
        exact ⟨ret_bool (by rw [HN.out, List.drop_eq_nil_of_le (by omega), List.drop_eq_nil_of_le (by have := HL.out; omega)]; rfl), HB.out⟩
  · have hlb : ((hs.length : Int) != (rs.length : Int)) = true := by rw [bne_iff_ne]; omega
    have HE : Aside0 (eqBy e62 hs rs = false) := ⟨eqBy_ne hl⟩
    clear hl
    go_enter Try.func50, Try.ntmps50
    go_wp2
    go_ret
    exact ⟨ret_bool HE.out.symm, Below.refl _ _⟩
set_option maxHeartbeats 4000000 in
set_option maxRecDepth 100000 in
theorem equalPairs_calls (A A' : Option Addr) (c c' : Nat) (hs rs : List S70) (w : World) (hr : Kd.C k70 w A hs.length hs) (hr' : Kd.C k70 w A' rs.length rs) :
    Calls Try.prog 85 #[.slice A hs.length c, .slice A' rs.length c'] w fun e w' => e = .returned (.bool (eqBy e70 hs rs)) ∧ Below w.heap.size w w' := by
  have hm := Kd.C_max hr
  have hm' := Kd.C_max hr'
  have HR := Aside0.mk hr
  have HR' := Aside0.mk hr'
  clear hr hr'
  by_cases hl : hs.length = rs.length
  · have hlb : ((hs.length : Int) != (rs.length : Int)) = false := by rw [bne_eq_false_iff_eq]; omega
    have HL := Aside0.mk hl
    clear hl
    go_enter Try.func85, Try.ntmps85
    go_wp2
    go_loopw [13] (fun i wr => ∃ k : Nat, k ≤ hs.length ∧ i = .int .i64 k ∧ Aside0 (eqBy e70 hs rs = eqBy e70 (hs.drop k) (rs.drop k)) ∧ Aside0 (Below w.heap.size w wr)) (fun i _ => hs.length - (intOf i).toNat)
    case atStart => exact ⟨0, Nat.zero_le _, rfl, ⟨rfl⟩, bel_refl _⟩
    case round =>
      obtain ⟨k, hk, rfl, HN, HB⟩ := hrel
      by_cases hlt : k < hs.length
      · have hlt' : k < rs.length := by have := HL.out; omega
        obtain ⟨ad, x, rfl, hd, -, h0, h1⟩ := el70 HR HB k hlt
        obtain ⟨ad', y, rfl, hd', -, h0', h1'⟩ := el70 HR' HB k hlt'
        have HS : Aside0 (eqBy e70 hs rs = (e70 x y && eqBy e70 (hs.drop (k + 1)) (rs.drop (k + 1)))) := ⟨by rw [HN.out, hd.out, hd'.out, eqBy]⟩
        clear HN hd hd'
        cases hx : e70 x y
        · have hy := hx
          rw [e70] at hy
          go_wp2
          go_quiet (fail)
          go_wp2
          go_ret
          exact ⟨ret_bool (by rw [HS.out, hx]; rfl), by repeat (first | exact HB.out | apply pw_below_drewN)⟩
        · have hy := hx
          rw [e70] at hy
          go_wp2
          go_quiet (fail)
          go_wp2
          go_roundw
          case rel => exact ⟨k + 1, by omega, by go_num, ⟨by rw [HS.out, hx]; rfl⟩, bel_drewN HB _⟩
          case measure => simp [intOf]; omega
      · go_wp2
        go_ret
        exact ⟨ret_bool (by rw [HN.out, List.drop_eq_nil_of_le (by omega), List.drop_eq_nil_of_le (by have := HL.out; omega)]; rfl), HB.out⟩
  · have hlb : ((hs.length : Int) != (rs.length : Int)) = true := by rw [bne_iff_ne]; omega
    have HE : Aside0 (eqBy e70 hs rs = false) := ⟨eqBy_ne hl⟩
    clear hl
    go_enter Try.func85, Try.ntmps85
    go_wp2
    go_ret
    exact ⟨ret_bool HE.out.symm, Below.refl _ _⟩
set_option maxHeartbeats 4000000 in
set_option maxRecDepth 100000 in
theorem samePairs_calls (A A' : Option Addr) (c c' : Nat) (hs rs : List S70) (w : World) (hr : Kd.C k70 w A hs.length hs) (hr' : Kd.C k70 w A' rs.length rs) :
    Calls Try.prog 51 #[.slice A hs.length c, .slice A' rs.length c'] w fun e w' => e = .returned (.bool (eqBy e70 hs rs)) ∧ Below w.heap.size w w' := by
  have hm := Kd.C_max hr
  have hm' := Kd.C_max hr'
  have HR := Aside0.mk hr
  have HR' := Aside0.mk hr'
  clear hr hr'
  by_cases hl : hs.length = rs.length
  · have hlb : ((hs.length : Int) != (rs.length : Int)) = false := by rw [bne_eq_false_iff_eq]; omega
    have HL := Aside0.mk hl
    clear hl
    go_enter Try.func51, Try.ntmps51
    go_wp2
    go_loopw [13] (fun i wr => ∃ k : Nat, k ≤ hs.length ∧ i = .int .i64 k ∧ Aside0 (eqBy e70 hs rs = eqBy e70 (hs.drop k) (rs.drop k)) ∧ Aside0 (Below w.heap.size w wr)) (fun i _ => hs.length - (intOf i).toNat)
    case atStart => exact ⟨0, Nat.zero_le _, rfl, ⟨rfl⟩, bel_refl _⟩
    case round =>
      obtain ⟨k, hk, rfl, HN, HB⟩ := hrel
      by_cases hlt : k < hs.length
      · have hlt' : k < rs.length := by have := HL.out; omega
        obtain ⟨ad, x, rfl, hd, -, h0, h1⟩ := el70 HR HB k hlt
        obtain ⟨ad', y, rfl, hd', -, h0', h1'⟩ := el70 HR' HB k hlt'
        have HS : Aside0 (eqBy e70 hs rs = (e70 x y && eqBy e70 (hs.drop (k + 1)) (rs.drop (k + 1)))) := ⟨by rw [HN.out, hd.out, hd'.out, eqBy]⟩
        clear HN hd hd'
        cases hx : e70 x y
        · have hy := hx
          rw [e70] at hy
          go_wp2
          go_quiet (fail)
          go_wp2
          go_ret
          exact ⟨ret_bool (by rw [HS.out, hx]; rfl), by repeat (first | exact HB.out | apply pw_below_drewN)⟩
        · have hy := hx
          rw [e70] at hy
          go_wp2
          go_quiet (fail)
          go_wp2
          go_roundw
          case rel => exact ⟨k + 1, by omega, by go_num, ⟨by rw [HS.out, hx]; rfl⟩, bel_drewN HB _⟩
          case measure => simp [intOf]; omega
      · go_wp2
        go_ret
        exact ⟨ret_bool (by rw [HN.out, List.drop_eq_nil_of_le (by omega), List.drop_eq_nil_of_le (by have := HL.out; omega)]; rfl), HB.out⟩
  · have hlb : ((hs.length : Int) != (rs.length : Int)) = true := by rw [bne_iff_ne]; omega
    have HE : Aside0 (eqBy e70 hs rs = false) := ⟨eqBy_ne hl⟩
    clear hl
    go_enter Try.func51, Try.ntmps51
    go_wp2
    go_ret
    exact ⟨ret_bool HE.out.symm, Below.refl _ _⟩
set_option maxHeartbeats 4000000 in
set_option maxRecDepth 100000 in
theorem equalNodes_calls (A A' : Option Addr) (c c' : Nat) (hs rs : List S74) (w : World) (hr : Kd.C k74 w A hs.length hs) (hr' : Kd.C k74 w A' rs.length rs) :
    Calls Try.prog 66 #[.slice A hs.length c, .slice A' rs.length c'] w fun e w' => e = .returned (.bool (eqBy e74 hs rs)) ∧ Below w.heap.size w w' := by
  have hm := Kd.C_max hr
  have hm' := Kd.C_max hr'
  have HR := Aside0.mk hr
  have HR' := Aside0.mk hr'
  clear hr hr'
  by_cases hl : hs.length = rs.length
  · have hlb : ((hs.length : Int) != (rs.length : Int)) = false := by rw [bne_eq_false_iff_eq]; omega
    have HL := Aside0.mk hl
    clear hl
    go_enter Try.func66, Try.ntmps66
    go_wp2
    go_loopw [13] (fun i wr => ∃ k : Nat, k ≤ hs.length ∧ i = .int .i64 k ∧ Aside0 (eqBy e74 hs rs = eqBy e74 (hs.drop k) (rs.drop k)) ∧ Aside0 (Below w.heap.size w wr)) (fun i _ => hs.length - (intOf i).toNat)
    case atStart => exact ⟨0, Nat.zero_le _, rfl, ⟨rfl⟩, bel_refl _⟩
    case round =>
      obtain ⟨k, hk, rfl, HN, HB⟩ := hrel
      by_cases hlt : k < hs.length
      · have hlt' : k < rs.length := by have := HL.out; omega
        obtain ⟨ad, x, rfl, hd, -, h0, h1, h2, h3⟩ := el74 HR HB k hlt
        obtain ⟨ad', y, rfl, hd', -, h0', h1', h2', h3'⟩ := el74 HR' HB k hlt'
        have HS : Aside0 (eqBy e74 hs rs = (e74 x y && eqBy e74 (hs.drop (k + 1)) (rs.drop (k + 1)))) := ⟨by rw [HN.out, hd.out, hd'.out, eqBy]⟩
        clear HN hd hd'
        cases hx : e74 x y
        · have hy := hx
          rw [e74] at hy
          go_wp2
          go_quiet (fail)
          go_wp2
          go_ret
          exact ⟨ret_bool (by rw [HS.out, hx]; rfl), by repeat (first | exact HB.out | apply pw_below_drewN)⟩
        · have hy := hx
          rw [e74] at hy
          go_wp2
          go_quiet (fail)
          go_wp2
          go_roundw
          case rel => exact ⟨k + 1, by omega, by go_num, ⟨by rw [HS.out, hx]; rfl⟩, bel_drewN HB _⟩
          case measure => simp [intOf]; omega
      · go_wp2
        go_ret
        exact ⟨ret_bool (by rw [HN.out, List.drop_eq_nil_of_le (by omega), List.drop_eq_nil_of_le (by have := HL.out; omega)]; rfl), HB.out⟩
  · have hlb : ((hs.length : Int) != (rs.length : Int)) = true := by rw [bne_iff_ne]; omega
    have HE : Aside0 (eqBy e74 hs rs = false) := ⟨eqBy_ne hl⟩
    clear hl
    go_enter Try.func66, Try.ntmps66
    go_wp2
    go_ret
    exact ⟨ret_bool HE.out.symm, Below.refl _ _⟩
set_option maxHeartbeats 4000000 in
set_option maxRecDepth 100000 in
theorem equalStrings_calls (A A' : Option Addr) (c c' : Nat) (hs rs : List ByteArray) (w : World) (hr : Kd.C Kd.string w A hs.length hs) (hr' : Kd.C Kd.string w A' rs.length rs) :
    Calls Try.prog 61 #[.slice A hs.length c, .slice A' rs.length c'] w fun e w' => e = .returned (.bool (eqBy eS hs rs)) ∧ Below w.heap.size w w' := by
  have hm := Kd.C_max hr
  have hm' := Kd.C_max hr'
  have HR := Aside0.mk hr
  have HR' := Aside0.mk hr'
  clear hr hr'
  by_cases hl : hs.length = rs.length
  · have hlb : ((hs.length : Int) != (rs.length : Int)) = false := by rw [bne_eq_false_iff_eq]; omega
    have HL := Aside0.mk hl
    clear hl
    go_enter Try.func61, Try.ntmps61
    go_wp2
    go_loopw [13] (fun i wr => ∃ k : Nat, k ≤ hs.length ∧ i = .int .i64 k ∧ Aside0 (eqBy eS hs rs = eqBy eS (hs.drop k) (rs.drop k)) ∧ Aside0 (Below w.heap.size w wr)) (fun i _ => hs.length - (intOf i).toNat)
    case atStart => exact ⟨0, Nat.zero_le _, rfl, ⟨rfl⟩, bel_refl _⟩
    case round =>
      obtain ⟨k, hk, rfl, HN, HB⟩ := hrel
      by_cases hlt : k < hs.length
      · have hlt' : k < rs.length := by have := HL.out; omega
        obtain ⟨ad, x, rfl, hd, -, h0⟩ := elS HR HB k hlt
        obtain ⟨ad', y, rfl, hd', -, h0'⟩ := elS HR' HB k hlt'
        have HS : Aside0 (eqBy eS hs rs = (eS x y && eqBy eS (hs.drop (k + 1)) (rs.drop (k + 1)))) := ⟨by rw [HN.out, hd.out, hd'.out, eqBy]⟩
        clear HN hd hd'
        cases hx : eS x y
        · have hy := hx
          rw [eS] at hy
          go_wp2
          go_quiet (fail)
          go_wp2
          go_ret
          exact ⟨ret_bool (by rw [HS.out, hx]; rfl), by repeat (first | exact HB.out | apply pw_below_drewN)⟩
        · have hy := hx
          rw [eS] at hy
          go_wp2
          go_quiet (fail)
          go_wp2
          go_roundw
          case rel => exact ⟨k + 1, by omega, by go_num, ⟨by rw [HS.out, hx]; rfl⟩, bel_drewN HB _⟩
          case measure => simp [intOf]; omega
      · go_wp2
        go_ret
        exact ⟨ret_bool (by rw [HN.out, List.drop_eq_nil_of_le (by omega), List.drop_eq_nil_of_le (by have := HL.out; omega)]; rfl), HB.out⟩
  · have hlb : ((hs.length : Int) != (rs.length : Int)) = true := by rw [bne_iff_ne]; omega
    have HE : Aside0 (eqBy eS hs rs = false) := ⟨eqBy_ne hl⟩
    clear hl
    go_enter Try.func61, Try.ntmps61
    go_wp2
    go_ret
    exact ⟨ret_bool HE.out.symm, Below.refl _ _⟩
set_option maxHeartbeats 4000000 in
set_option maxRecDepth 100000 in
theorem equalInts_calls (A A' : Option Addr) (c c' : Nat) (hs rs : List Int) (w : World) (hr : Kd.C (Kd.int .i64) w A hs.length hs) (hr' : Kd.C (Kd.int .i64) w A' rs.length rs) :
    Calls Try.prog 67 #[.slice A hs.length c, .slice A' rs.length c'] w fun e w' => e = .returned (.bool (eqBy eI hs rs)) ∧ Below w.heap.size w w' := by
  have hm := Kd.C_max hr
  have hm' := Kd.C_max hr'
  have HR := Aside0.mk hr
  have HR' := Aside0.mk hr'
  clear hr hr'
  by_cases hl : hs.length = rs.length
  · have hlb : ((hs.length : Int) != (rs.length : Int)) = false := by rw [bne_eq_false_iff_eq]; omega
    have HL := Aside0.mk hl
    clear hl
    go_enter Try.func67, Try.ntmps67
    go_wp2
    go_loopw [13] (fun i wr => ∃ k : Nat, k ≤ hs.length ∧ i = .int .i64 k ∧ Aside0 (eqBy eI hs rs = eqBy eI (hs.drop k) (rs.drop k)) ∧ Aside0 (Below w.heap.size w wr)) (fun i _ => hs.length - (intOf i).toNat)
    case atStart => exact ⟨0, Nat.zero_le _, rfl, ⟨rfl⟩, bel_refl _⟩
    case round =>
      obtain ⟨k, hk, rfl, HN, HB⟩ := hrel
      by_cases hlt : k < hs.length
      · have hlt' : k < rs.length := by have := HL.out; omega
        obtain ⟨ad, x, rfl, hd, -, h0⟩ := elI HR HB k hlt
        obtain ⟨ad', y, rfl, hd', -, h0'⟩ := elI HR' HB k hlt'
        have HS : Aside0 (eqBy eI hs rs = (eI x y && eqBy eI (hs.drop (k + 1)) (rs.drop (k + 1)))) := ⟨by rw [HN.out, hd.out, hd'.out, eqBy]⟩
        clear HN hd hd'
        cases hx : eI x y
        · have hy := hx
          rw [eI] at hy
          go_wp2
          go_quiet (fail)
          go_wp2
          go_ret
          exact ⟨ret_bool (by rw [HS.out, hx]; rfl), by repeat (first | exact HB.out | apply pw_below_drewN)⟩
        · have hy := hx
          rw [eI] at hy
          go_wp2
          go_quiet (fail)
          go_wp2
          go_roundw
          case rel => exact ⟨k + 1, by omega, by go_num, ⟨by rw [HS.out, hx]; rfl⟩, bel_drewN HB _⟩
          case measure => simp [intOf]; omega
      · go_wp2
        go_ret
        exact ⟨ret_bool (by rw [HN.out, List.drop_eq_nil_of_le (by omega), List.drop_eq_nil_of_le (by have := HL.out; omega)]; rfl), HB.out⟩
  · have hlb : ((hs.length : Int) != (rs.length : Int)) = true := by rw [bne_iff_ne]; omega
    have HE : Aside0 (eqBy eI hs rs = false) := ⟨eqBy_ne hl⟩
    clear hl
    go_enter Try.func67, Try.ntmps67
    go_wp2
    go_ret
    exact ⟨ret_bool HE.out.symm, Below.refl _ _⟩
end Go.Proofs.Ytkdgholmfnidkaa
