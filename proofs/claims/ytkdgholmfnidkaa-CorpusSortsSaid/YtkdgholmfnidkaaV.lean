/- The order of regions is an order: antisymmetric, transitive, and zero only for equal ones. Plain laws, no program. -/
import Derived.Test.YtkdgholmfnidkaaQ
namespace Go.Proofs.Ytkdgholmfnidkaa
open Go.RowKit

/-- A comparison that is an order. -/
structure Ordc {α : Type} (c : α → α → Int) : Prop where
  anti : ∀ a b, c b a = - c a b
  trans : ∀ a b d, c a b ≤ 0 → c b d ≤ 0 → c a d ≤ 0
theorem Ordc.lex {α : Type} {c1 c2 : α → α → Int} (h1 : Ordc c1) (h2 : Ordc c2) : Ordc (fun a b => if c1 a b != 0 then c1 a b else c2 a b) := by
  have key : ∀ a b, (if (c1 a b != 0) = true then c1 a b else c2 a b) ≤ 0 ↔ c1 a b < 0 ∨ (c1 a b = 0 ∧ c2 a b ≤ 0) := by
    intro a b
    by_cases h : c1 a b = 0
    · simp [h]
    · rw [if_pos (by simpa using h)]
      omega
  constructor
  · intro a b
    show (if (c1 b a != 0) = true then c1 b a else c2 b a) = -(if (c1 a b != 0) = true then c1 a b else c2 a b)
    rw [h1.anti a b]
    by_cases h : c1 a b = 0
    · rw [if_neg (by simp [h]), if_neg (by simp [h]), h2.anti a b]
    · rw [if_pos (by simp; omega), if_pos (by simpa using h)]
  · intro a b d
    show (if (c1 a b != 0) = true then c1 a b else c2 a b) ≤ 0 → (if (c1 b d != 0) = true then c1 b d else c2 b d) ≤ 0 → (if (c1 a d != 0) = true then c1 a d else c2 a d) ≤ 0
    rw [key, key, key]
    intro hab hbd
    have t := h1.trans a b d (by omega) (by omega)
    by_cases hz : c1 a d = 0
    · right
      have e1 : c1 d a ≤ 0 := by rw [h1.anti a d]; omega
      have e2 := h1.trans d a b e1 (by omega)
      have e3 := h1.trans b d a (by omega) e1
      rw [h1.anti b d] at e2
      rw [h1.anti a b] at e3
      exact ⟨hz, h2.trans a b d (by omega) (by omega)⟩
    · left; omega
theorem Ordc.on {α β : Type} {c : α → α → Int} (h : Ordc c) (f : β → α) : Ordc (fun a b => c (f a) (f b)) := ⟨fun a b => h.anti _ _, fun a b d => h.trans _ _ _⟩
theorem Ordc.flip {α : Type} {c : α → α → Int} (h : Ordc c) : Ordc (fun a b => c b a) := ⟨fun a b => h.anti _ _, fun a b d h1 h2 => h.trans _ _ _ h2 h1⟩
theorem ordI : Ordc cmpI := by
  constructor
  · intro a b; unfold cmpI; split <;> split <;> (try split) <;> omega
  · intro a b d; unfold cmpI; intro h1 h2; split at h1 <;> (try split at h1) <;> split at h2 <;> (try split at h2) <;> split <;> (try split) <;> omega
/-- Bytes compared one by one. -/
def cmpL : List UInt8 → List UInt8 → Int
  | [], [] => 0
  | [], _ :: _ => -1
  | _ :: _, [] => 1
  | a :: x, b :: y => if cmpI (a.toNat : Int) (b.toNat : Int) != 0 then cmpI (a.toNat : Int) (b.toNat : Int) else cmpL x y
theorem less_cmpL : ∀ x y : List UInt8, (if Op.bytesLess x y then (-1 : Int) else if x == y then 0 else 1) = cmpL x y
  | [], [] => rfl
  | [], _ :: _ => rfl
  | _ :: _, [] => rfl
  | a :: x, b :: y => by
    have ih := less_cmpL x y
    rw [cmpL, ← ih]
    rcases Nat.lt_trichotomy a.toNat b.toNat with h | h | h
    · have h1 : a < b := h
      have hc : cmpI (a.toNat : Int) (b.toNat : Int) = -1 := by unfold cmpI; rw [if_pos (by omega)]
      rw [hc, if_pos (show ((-1 : Int) != 0) = true from rfl)]
      simp [Op.bytesLess, h1]
    · have h1 : a = b := UInt8.toNat_inj.1 h
      subst h1
      have h2 : ¬ a < a := fun q => absurd (show a.toNat < a.toNat from q) (Nat.lt_irrefl _)
      have hc : cmpI (a.toNat : Int) (a.toNat : Int) = 0 := by unfold cmpI; rw [if_neg (by omega), if_neg (by omega)]
      rw [hc, if_neg (show ¬((0 : Int) != 0) = true by decide)]
      simp [Op.bytesLess, h2]
    · have h1 : ¬ a < b := fun q => absurd (show a.toNat < b.toNat from q) (by omega)
      have h2 : a ≠ b := fun q => by subst q; omega
      have hc : cmpI (a.toNat : Int) (b.toNat : Int) = 1 := by unfold cmpI; rw [if_neg (by omega), if_pos (by omega)]
      rw [hc, if_pos (show ((1 : Int) != 0) = true from rfl)]
      simp [Op.bytesLess, h1, h2]
theorem cmpT_L (a b : ByteArray) : cmpT a b = cmpL a.toList b.toList := by rw [cmpT, less_cmpL]
/-- Lists compared element by element, the shorter one first. -/
theorem ordList {α : Type} {c : α → α → Int} (h : Ordc c) (g : List α → List α → Int) (g0 : g [] [] = 0) (g1 : ∀ a l, g [] (a :: l) = -1) (g2 : ∀ a l, g (a :: l) [] = 1) (g3 : ∀ a l b m, g (a :: l) (b :: m) = if c a b != 0 then c a b else g l m) : Ordc g := by
  have an : ∀ x y, g y x = - g x y := by
    intro x
    induction x with
    | nil => intro y; cases y with
      | nil => rw [g0]; rfl
      | cons b y => rw [g1, g2]; rfl
    | cons a x ih => intro y; cases y with
      | nil => rw [g1, g2]
      | cons b y =>
        rw [g3, g3, h.anti a b, ih y]
        by_cases hz : c a b = 0
        · rw [if_neg (by simp [hz]), if_neg (by simp [hz])]
        · rw [if_pos (by simp; omega), if_pos (by simpa using hz)]
  have key : ∀ a l b m, g (a :: l) (b :: m) ≤ 0 ↔ c a b < 0 ∨ (c a b = 0 ∧ g l m ≤ 0) := by
    intro a l b m
    rw [g3]
    by_cases hz : c a b = 0
    · simp [hz]
    · rw [if_pos (by simpa using hz)]; omega
  refine ⟨an, ?_⟩
  intro x
  induction x with
  | nil => intro y d _ _; cases d with
    | nil => rw [g0]; exact Int.le_refl _
    | cons e d => rw [g1]; decide
  | cons a x ih => intro y d h1 h2; cases y with
    | nil => rw [g2] at h1; exact absurd h1 (by decide)
    | cons b y => cases d with
      | nil => rw [g2] at h2; exact absurd h2 (by decide)
      | cons e d =>
        rw [key] at h1 h2 ⊢
        have t := h.trans a b e (by omega) (by omega)
        by_cases hz : c a e = 0
        · right
          have e1 : c e a ≤ 0 := by rw [h.anti a e]; omega
          have e2 := h.trans e a b e1 (by omega)
          have e3 := h.trans b e a (by omega) e1
          rw [h.anti b e] at e2
          rw [h.anti a b] at e3
          exact ⟨hz, ih y d (by omega) (by omega)⟩
        · left; omega
theorem ordL : Ordc cmpL := ordList (ordI.on (fun u : UInt8 => (u.toNat : Int))) cmpL rfl (fun _ _ => rfl) (fun _ _ => rfl) (fun _ _ _ _ => rfl)
theorem ordT : Ordc cmpT := by
  have := ordL.on (fun a : ByteArray => a.toList)
  exact ⟨fun a b => by rw [cmpT_L, cmpT_L]; exact this.anti a b, fun a b d => by rw [cmpT_L, cmpT_L, cmpT_L]; exact this.trans a b d⟩
theorem ordP : Ordc cmpP := ordList ((ordT.on S70.f0).lex (ordT.on S70.f1)) cmpP (by rw [cmpP]) (fun _ _ => by rw [cmpP]) (fun _ _ => by rw [cmpP]) (fun a l b m => by
  rw [cmpP]
  by_cases h : cmpT a.f0 b.f0 = 0
  · simp [h]
  · have : (cmpT a.f0 b.f0 != 0) = true := by simpa using h
    simp [this, h])
theorem ordR : Ordc cmpR := (ordI.on S39.f1).lex ((ordI.on S39.f2).flip.lex ((ordT.on S39.f0).lex (ordP.on S39.f3)))
theorem cmpI_zero (a b : Int) : (cmpI a b == 0) = (a == b) := by
  rw [Bool.eq_iff_iff, beq_iff_eq, beq_iff_eq]; unfold cmpI; split <;> (try split) <;> omega
theorem cmpT_zero (a b : ByteArray) : (cmpT a b == 0) = (a.toList == b.toList) := by
  have := cmpT_ne a b
  rw [bne] at this
  simpa using this
theorem cmpP_zero : ∀ l m : List S70, (cmpP l m == 0) = eqBy e70 l m
  | [], [] => by rw [cmpP]; rfl
  | [], _ :: _ => by rw [cmpP]; rfl
  | _ :: _, [] => by rw [cmpP]; rfl
  | a :: l, b :: m => by
    have h0 := cmpT_zero a.f0 b.f0
    have h1 := cmpT_zero a.f1 b.f1
    rw [cmpP, eqBy, e70, ← h0, ← h1, ← cmpP_zero l m]
    by_cases z0 : cmpT a.f0 b.f0 = 0
    · by_cases z1 : cmpT a.f1 b.f1 = 0
      · simp [z0, z1]
      · have z1' : (cmpT a.f1 b.f1 == 0) = false := by simpa using z1
        simp [z0, z1', bne]
    · have z0' : (cmpT a.f0 b.f0 == 0) = false := by simpa using z0
      simp [z0', bne]
theorem cmpR_zero (a b : S39) : (cmpR a b == 0) = e39 a b := by
  have h0 := cmpI_zero a.f1 b.f1
  have h1 := cmpI_zero b.f2 a.f2
  have h2 := cmpT_zero a.f0 b.f0
  have h3 := cmpP_zero a.f3 b.f3
  have h1' : (b.f2 == a.f2) = (a.f2 == b.f2) := by rw [Bool.eq_iff_iff, beq_iff_eq, beq_iff_eq]; exact eq_comm
  rw [h1'] at h1
  rw [cmpR, e39, ← h0, ← h1, ← h2, ← h3]
  cases z0 : cmpI a.f1 b.f1 == 0
  · simp [z0, bne]
  cases z1 : cmpI b.f2 a.f2 == 0
  · simp [z0, z1, bne]
  cases z2 : cmpT a.f0 b.f0 == 0
  · simp [z0, z1, z2, bne]
  simp [z0, z1, z2, bne]
theorem cmpI_rng (a b : Int) : -1 ≤ cmpI a b ∧ cmpI a b ≤ 1 := by unfold cmpI; split <;> (try split) <;> omega
theorem cmpT_rng (a b : ByteArray) : -1 ≤ cmpT a b ∧ cmpT a b ≤ 1 := by unfold cmpT; split <;> (try split) <;> omega
theorem cmpP_rng : ∀ l m : List S70, -1 ≤ cmpP l m ∧ cmpP l m ≤ 1
  | [], [] => by rw [cmpP]; omega
  | [], _ :: _ => by rw [cmpP]; omega
  | _ :: _, [] => by rw [cmpP]; omega
  | a :: l, b :: m => by
    rw [cmpP]
    have := cmpT_rng a.f0 b.f0
    have := cmpT_rng a.f1 b.f1
    have := cmpP_rng l m
    split <;> (try split) <;> omega
theorem cmpR_rng (a b : S39) : -1 ≤ cmpR a b ∧ cmpR a b ≤ 1 := by
  rw [cmpR]
  have := cmpI_rng a.f1 b.f1
  have := cmpI_rng b.f2 a.f2
  have := cmpT_rng a.f0 b.f0
  have := cmpP_rng a.f3 b.f3
  split <;> (try split) <;> (try split) <;> omega
end Go.Proofs.Ytkdgholmfnidkaa
