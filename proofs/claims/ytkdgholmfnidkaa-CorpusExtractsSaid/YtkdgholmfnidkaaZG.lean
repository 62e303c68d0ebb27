/- The rings of heads: the marks of the program and the way of the reference tell the same. Plain laws: texts that lie one behind the other; what the checks of regions and nodes keep. -/
import Derived.Test.YtkdgholmfnidkaaH
import Derived.Test.YtkdgholmfnidkaaL
namespace Go.Proofs.Ytkdgholmfnidkaa
open Go.RowKit Go.Proofs.YtkdgholmfnidkaaW.PrintWords Go.Proofs.YtkdgholmfnidkaaW.PrintLast Go.Proofs.YtkdgholmfnidkaaW.PrintMore

def it (hs : List Int) : Nat → Int → Int
  | 0, x => x
  | n + 1, x => it hs n (rd hs x)
theorem it_add (hs : List Int) : ∀ (m n : Nat) (x : Int), it hs (m + n) x = it hs n (it hs m x)
  | 0, n, x => by rw [Nat.zero_add]; rfl
  | m + 1, n, x => by rw [show m + 1 + n = (m + n) + 1 by omega]; exact it_add hs m n (rd hs x)
theorem it_succ (hs : List Int) (n : Nat) (x : Int) : it hs (n + 1) x = rd hs (it hs n x) := it_add hs n 1 x
def inR (hs : List Int) (x : Int) : Prop := 0 ≤ x ∧ x < hs.length
def onC (hs : List Int) (x : Int) : Prop := (∃ m, 1 ≤ m ∧ it hs m x = x) ∧ ∀ t, inR hs (it hs t x)
theorem it_period {hs : List Int} {m : Nat} {x : Int} (h : it hs m x = x) : ∀ q : Nat, it hs (m * q) x = x
  | 0 => rfl
  | q + 1 => by rw [Nat.mul_succ, it_add, it_period h q, h]
theorem onC_back {hs : List Int} {x y : Int} (h : onC hs x) {u : Nat} (hy : y = it hs u x) : ∃ T, x = it hs T y := by
  obtain ⟨m, hm, he⟩ := h.1
  have hle : u ≤ m * (u + 1) := Nat.le_trans (Nat.le_succ u) (Nat.le_mul_of_pos_left (u + 1) hm)
  refine ⟨m * (u + 1) - u, ?_⟩
  rw [hy, ← it_add, Nat.add_sub_cancel' hle, it_period he]
structure MarkOk (hs s s' : List Int) (c k0 a : Int) (r : Nat) : Prop where
  at_ : a = it hs r k0
  way : ∀ t, t < r → inR hs (it hs t k0) ∧ rd s (it hs t k0) = 0 ∧ rd s' (it hs t k0) = c
  val : ∀ x, 0 ≤ x → rd s' x = rd s x ∨ (rd s x = 0 ∧ rd s' x = c ∧ ∃ t, t < r ∧ x = it hs t k0)
  len : s'.length = hs.length
theorem MarkOk.next {hs s s' : List Int} {c k0 a : Int} {r : Nat} (h : MarkOk hs s s' c k0 a r) (h0 : 0 ≤ a) (h1 : a < hs.length) (hz : rd s' a = 0) :
    MarkOk hs s (s'.set a.toNat c) c k0 (rd hs a) (r + 1) := by
  have hl : a < s'.length := by rw [h.len]; exact h1
  refine ⟨by rw [it_succ, ← h.at_], ?_, ?_, by rw [List.length_set]; exact h.len⟩
  · intro t ht
    by_cases htr : t < r
    · obtain ⟨p, q, u⟩ := h.way t htr
      refine ⟨p, q, ?_⟩
      rw [rd_set h0 hl p.1]
      split
      · rfl
      · exact u
    · obtain rfl : t = r := by omega
      rw [← h.at_]
      refine ⟨⟨h0, h1⟩, ?_, by rw [rd_set h0 hl h0, if_pos rfl]⟩
      rcases h.val a h0 with e | ⟨e, -, -⟩
      · rw [← e]; exact hz
      · exact e
  · intro x hx
    rw [rd_set h0 hl hx]
    by_cases hxa : x = a
    · subst hxa
      rw [if_pos rfl]
      refine .inr ⟨?_, rfl, r, by omega, h.at_⟩
      rcases h.val x h0 with e | ⟨e, -, -⟩
      · rw [← e]; exact hz
      · exact e
    · rw [if_neg hxa]
      rcases h.val x hx with e | ⟨e, e2, t, ht, e3⟩
      · exact .inl e
      · exact .inr ⟨e, e2, t, by omega, e3⟩
theorem markGo_ok {hs s : List Int} {c k0 : Int} (hc : c ≠ 0) : ∀ (n : Nat) (s' : List Int) (a : Int) (r : Nat), s'.count 0 = n → MarkOk hs s s' c k0 a r →
    ∃ r', MarkOk hs s (markGo hs c (s'.count 0) a s').2 c k0 (markGo hs c (s'.count 0) a s').1 r' ∧ ¬(inR hs (markGo hs c (s'.count 0) a s').1 ∧ rd (markGo hs c (s'.count 0) a s').2 (markGo hs c (s'.count 0) a s').1 = 0) := by
  intro n
  induction n with
  | zero =>
    intro s' a r hn h
    by_cases hz : inR hs a ∧ rd s' a = 0
    · have := count_zero_set (s := s') (c := c) hz.1.1 (by rw [h.len]; exact hz.1.2) hz.2 hc
      omega
    · rw [markGo_end (fun p => hz ⟨⟨p.1, p.2.1⟩, p.2.2⟩)]
      exact ⟨r, h, hz⟩
  | succ n ih =>
    intro s' a r hn h
    by_cases hz : inR hs a ∧ rd s' a = 0
    · have hq := count_zero_set (s := s') (c := c) hz.1.1 (by rw [h.len]; exact hz.1.2) hz.2 hc
      rw [markGo_step hc h.len hz.1.1 hz.1.2 hz.2]
      exact ih _ _ (r + 1) (by omega) (h.next hz.1.1 hz.1.2 hz.2)
    · rw [markGo_end (fun p => hz ⟨⟨p.1, p.2.1⟩, p.2.2⟩)]
      exact ⟨r, h, hz⟩
structure RingOk (hs : List Int) (b b1 : List Bool) (a j : Int) : Prop where
  len : b1.length = hs.length
  re : ∃ u, j = it hs u a
  sub : ∀ x, 0 ≤ x → rdB b1 x = true → rdB b x = true ∨ ∃ u, x = it hs u a
  sup : ∀ x, 0 ≤ x → rdB b x = true → rdB b1 x = true
  cl : ∀ u, rdB b1 (it hs u a) = true → it hs (u + 1) a = j ∨ rdB b1 (it hs (u + 1) a) = true
  st : j = a ∨ rdB b1 a = true
theorem RingOk.next {hs : List Int} {b b1 : List Bool} {a j : Int} (hP : ∀ u, inR hs (it hs u a)) (h : RingOk hs b b1 a j) : RingOk hs b (b1.set j.toNat true) a (rd hs j) := by
  obtain ⟨v, hv⟩ := h.re
  have hj := hP v
  rw [← hv] at hj
  have hl : j < b1.length := by rw [h.len]; exact hj.2
  refine ⟨by rw [List.length_set]; exact h.len, ⟨v + 1, by rw [it_succ, ← hv]⟩, ?_, ?_, ?_, ?_⟩
  · intro x hx he
    rw [rdB_set hj.1 hl hx] at he
    by_cases hxj : x = j
    · exact .inr ⟨v, hxj.trans hv⟩
    · rw [if_neg hxj] at he; exact h.sub x hx he
  · intro x hx he
    rw [rdB_set hj.1 hl hx]
    split
    · rfl
    · exact h.sup x hx he
  · intro u he
    have h1 := hP u
    have h2 := hP (u + 1)
    rw [rdB_set hj.1 hl h1.1] at he
    by_cases hxj : it hs u a = j
    · left; rw [it_succ, hxj]
    · rw [if_neg hxj] at he
      right
      rw [rdB_set hj.1 hl h2.1]
      rcases h.cl u he with e | e
      · rw [if_pos e]
      · split
        · rfl
        · exact e
  · right
    have ha : inR hs a := hP 0
    rw [rdB_set hj.1 hl ha.1]
    split
    · rfl
    · rename_i hne
      rcases h.st with e | e
      · exact absurd e.symm hne
      · exact e
theorem ringGo_ok {hs : List Int} {b : List Bool} {a : Int} (hP : ∀ u, inR hs (it hs u a)) : ∀ (n : Nat) (b1 : List Bool) (j : Int), b1.count false = n → RingOk hs b b1 a j →
    (∀ x, 0 ≤ x → (rdB (ringGo hs (b1.count false) j b1) x = true ↔ rdB b x = true ∨ ∃ u, x = it hs u a)) := by
  intro n
  induction n with
  | zero =>
    intro b1 j hn h
    obtain ⟨v, hv⟩ := h.re
    have hj := hP v
    rw [← hv] at hj
    cases hz : rdB b1 j
    · have := count_false_set hj.1 (by rw [h.len]; exact hj.2) hz
      omega
    · rw [ringGo_end hz]
      have hall : ∀ u, rdB b1 (it hs u a) = true := by
        intro u
        induction u with
        | zero => rcases h.st with e | e
                  · rw [← e]; exact hz
                  · exact e
        | succ u ih => rcases h.cl u ih with e | e
                       · rw [e]; exact hz
                       · exact e
      intro x hx
      refine ⟨h.sub x hx, ?_⟩
      rintro (e | ⟨u, rfl⟩)
      · exact h.sup x hx e
      · exact hall u
  | succ n ih =>
    intro b1 j hn h
    obtain ⟨v, hv⟩ := h.re
    have hj := hP v
    rw [← hv] at hj
    cases hz : rdB b1 j
    · have hq := count_false_set hj.1 (by rw [h.len]; exact hj.2) hz
      rw [ringGo_step h.len hj.1 hj.2 hz]
      exact ih _ _ (by omega) (h.next hP)
    · rw [ringGo_end hz]
      have hall : ∀ u, rdB b1 (it hs u a) = true := by
        intro u
        induction u with
        | zero => rcases h.st with e | e
                  · rw [← e]; exact hz
                  · exact e
        | succ u ih => rcases h.cl u ih with e | e
                       · rw [e]; exact hz
                       · exact e
      intro x hx
      refine ⟨h.sub x hx, ?_⟩
      rintro (e | ⟨u, rfl⟩)
      · exact h.sup x hx e
      · exact hall u
structure CyI (hs : List Int) (b : List Bool) (s : List Int) (k : Nat) : Prop where
  lb : b.length = hs.length
  ls : s.length = hs.length
  le : ∀ x, inR hs x → 0 ≤ rd s x ∧ rd s x ≤ (k : Int)
  cl : ∀ x, inR hs x → rd s x ≠ 0 → inR hs (rd hs x) → rd s (rd hs x) ≠ 0
  vis : ∀ x : Int, 0 ≤ x → x < (k : Int) → rd s x ≠ 0
  ok : ∀ x, inR hs x → (rdB b x = true ↔ rd s x ≠ 0 ∧ onC hs x)
theorem CyI.far {hs : List Int} {b : List Bool} {s : List Int} {k : Nat} (h : CyI hs b s k) {x : Int} (hx : ∀ t, inR hs (it hs t x)) (hv : rd s x ≠ 0) : ∀ t, rd s (it hs t x) ≠ 0
  | 0 => hv
  | t + 1 => by rw [it_succ]; exact h.cl _ (hx t) (h.far hx hv t) (by rw [← it_succ]; exact hx (t + 1))
theorem CyI.next {hs : List Int} {b : List Bool} {s : List Int} {k : Nat} (h : CyI hs b s k) (hk : k < hs.length) :
    CyI hs (ringOf hs k b (markGo hs ((k : Int) + 1) (s.count 0) k s)) (markGo hs ((k : Int) + 1) (s.count 0) k s).2 (k + 1) := by
  obtain ⟨r, hm, hend⟩ := markGo_ok (c := (k : Int) + 1) (k0 := (k : Int)) (by omega) (s.count 0) s (k : Int) 0 rfl
    ⟨rfl, fun t ht => absurd ht (Nat.not_lt_zero t), fun x _ => .inl rfl, h.ls⟩
  generalize markGo hs ((k : Int) + 1) (s.count 0) (k : Int) s = m at hm hend ⊢
  obtain ⟨a, s'⟩ := m
  simp only at hm hend ⊢
  have hkk : inR hs (k : Int) := ⟨by omega, by omega⟩
  have hold : ∀ x, 0 ≤ x → rd s x ≠ 0 → rd s' x = rd s x := fun x hx hv => (hm.val x hx).elim id fun e => absurd e.1 hv
  have hkeep : ∀ x, 0 ≤ x → rd s x ≠ 0 → rd s' x ≠ 0 := fun x hx hv => by rw [hold x hx hv]; exact hv
  refine ⟨?_, hm.len, ?_, ?_, ?_, ?_⟩
  · rw [length_ringOf]; exact h.lb
  · intro x hx
    have := h.le x hx
    rcases hm.val x hx.1 with e | ⟨-, e, -⟩
    · rw [e]; omega
    · rw [e]; omega
  · intro x hx hv hf
    rcases hm.val x hx.1 with e | ⟨-, e, t, ht, e2⟩
    · rw [e] at hv
      exact hkeep _ hf.1 (h.cl x hx hv hf)
    · subst e2
      rw [← it_succ] at hf ⊢
      by_cases htr : t + 1 < r
      · rw [(hm.way (t + 1) htr).2.2]; omega
      · obtain rfl : t + 1 = r := by omega
        rw [← hm.at_] at hf ⊢
        exact fun hz => hend ⟨hf, hz⟩
  · intro x hx0 hx1
    by_cases hxk : x < (k : Int)
    · exact hkeep x hx0 (h.vis x hx0 hxk)
    · obtain rfl : x = (k : Int) := by omega
      by_cases hr : r = 0
      · subst hr
        have : a = (k : Int) := hm.at_
        rw [this] at hend
        exact fun hz => hend ⟨hkk, hz⟩
      · have := (hm.way 0 (by omega)).2.2
        rw [show it hs 0 (k : Int) = k from rfl] at this
        rw [this]; omega
  · have hnew : ∀ x, inR hs x → rd s x = 0 → rd s' x ≠ 0 → ∃ t, t < r ∧ x = it hs t k ∧ a = it hs (r - t) x := by
      intro x hx h0 hv
      rcases hm.val x hx.1 with e | ⟨-, -, t, ht, e⟩
      · rw [e] at hv; exact absurd h0 hv
      · refine ⟨t, ht, e, ?_⟩
        rw [hm.at_, e, ← it_add, Nat.add_sub_cancel' (by omega)]
    have hb0 : ∀ x, inR hs x → rd s x = 0 → rdB b x = false := by
      intro x hx h0
      cases hb : rdB b x
      · rfl
      · exact absurd h0 ((h.ok x hx).1 hb).1
    unfold ringOf
    by_cases hc : a < 0 ∨ (hs.length : Int) ≤ a ∨ rd s' a ≠ (k : Int) + 1 ∨ rdB b a = true
    · rw [if_pos hc]
      intro x hx
      rw [h.ok x hx]
      refine ⟨fun ⟨p, q⟩ => ⟨hkeep x hx.1 p, q⟩, ?_⟩
      rintro ⟨hv, hon⟩
      refine ⟨?_, hon⟩
      intro h0
      obtain ⟨t, ht, hxt, hax⟩ := hnew x hx h0 hv
      have hia : inR hs a := by rw [hax]; exact hon.2 _
      obtain ⟨T, hT⟩ := onC_back hon hax
      have hao : rd s a ≠ 0 := by
        rcases hc with e | e | e | e
        · have := hia.1; omega
        · have := hia.2; omega
        · rcases hm.val a hia.1 with e2 | ⟨-, e2, -⟩
          · exact fun hz => hend ⟨hia, e2.trans hz⟩
          · exact absurd e2 e
        · exact ((h.ok a hia).1 e).1
      refine h.far (x := a) (fun u => ?_) hao T (by rw [← hT]; exact h0)
      rw [hax, ← it_add]
      exact hon.2 _
    · rw [if_neg hc]
      have hia : inR hs a := ⟨by omega, by omega⟩
      have hca : rd s' a = (k : Int) + 1 := by
        by_cases e : rd s' a = (k : Int) + 1
        · exact e
        · exact absurd (.inr (.inr (.inl e))) hc
      obtain ⟨j, hj, haj⟩ : ∃ j, j < r ∧ a = it hs j k := by
        rcases hm.val a hia.1 with e | ⟨-, -, t, ht, e⟩
        · have := h.le a hia; omega
        · exact ⟨t, ht, e⟩
      have hcl : ∀ x, inR hs x → rd s x = 0 → rd s' x = (k : Int) + 1 → inR hs (rd hs x) ∧ rd s (rd hs x) = 0 ∧ rd s' (rd hs x) = (k : Int) + 1 := by
        intro x hx h0 hv
        obtain ⟨t, ht, hxt, -⟩ := hnew x hx h0 (by omega)
        rw [hxt, ← it_succ]
        by_cases htr : t + 1 < r
        · exact hm.way _ htr
        · obtain rfl : t + 1 = r := by omega
          rw [← hm.at_, haj]
          exact hm.way j hj
      have hit : ∀ u, inR hs (it hs u a) ∧ rd s (it hs u a) = 0 ∧ rd s' (it hs u a) = (k : Int) + 1 := by
        intro u
        induction u with
        | zero => rw [haj]; exact hm.way j hj
        | succ u ih => rw [it_succ]; exact hcl _ ih.1 ih.2.1 ih.2.2
      have hper : it hs (r - j) a = a := by rw [haj, ← it_add, Nat.add_sub_cancel' (by omega), ← hm.at_, haj]
      intro x hx
      rw [ringGo_ok (b := b) (fun u => (hit u).1) (b.count false) b a rfl ⟨h.lb, ⟨0, rfl⟩, fun x _ e => .inl e, fun x _ e => e, fun u e => absurd e (by rw [hb0 _ (hit u).1 (hit u).2.1]; decide), .inl rfl⟩ x hx.1, h.ok x hx]
      constructor
      · rintro (⟨p, q⟩ | ⟨u, rfl⟩)
        · exact ⟨hkeep x hx.1 p, q⟩
        · refine ⟨by rw [(hit u).2.2]; omega, ⟨r - j, by omega, ?_⟩, fun t => ?_⟩
          · rw [← it_add, Nat.add_comm, it_add, hper]
          · rw [← it_add]; exact (hit _).1
      · rintro ⟨hv, hon⟩
        by_cases h0 : rd s x = 0
        · obtain ⟨t, ht, hxt, hax⟩ := hnew x hx h0 hv
          exact .inr (onC_back hon hax)
        · exact .inl ⟨h0, hon⟩
theorem cycGo_ok {hs : List Int} : ∀ (n k : Nat) (b : List Bool) (s : List Int), CyI hs b s k → k + n = hs.length → ∀ x, inR hs x → (rdB (cycGo hs n k b s) x = true ↔ onC hs x)
  | 0, k, b, s, h, hk, x, hx => by
    rw [cycGo, h.ok x hx]
    exact ⟨fun p => p.2, fun p => ⟨h.vis x hx.1 (by have := hx.2; omega), p⟩⟩
  | n + 1, k, b, s, h, hk, x, hx => cycGo_ok n (k + 1) _ _ (h.next (by omega)) (by omega) x hx
theorem rd_rep (n : Nat) (x : Int) : rd (List.replicate n 0) x = 0 := by
  rw [rd, List.getD_eq_getElem?_getD, List.getElem?_replicate]
  split <;> rfl
theorem rdB_rep (n : Nat) (x : Int) : rdB (List.replicate n false) x = false := by
  rw [rdB, List.getD_eq_getElem?_getD, List.getElem?_replicate]
  split <;> rfl
theorem cyc_ok {hs : List Int} {x : Int} (hx : inR hs x) : rdB (cyc hs) x = true ↔ onC hs x := by
  refine cycGo_ok hs.length 0 _ _ ⟨by simp, by simp, fun y _ => ?_, fun y _ h => absurd (rd_rep _ _) h, fun y h0 h1 => by omega, fun y _ => ?_⟩ (by omega) x hx
  · rw [rd_rep]; omega
  · rw [rdB_rep, rd_rep]; simp
def cycR (hs : List Int) (i : Int) : Nat → Int → Bool
  | 0, _ => false
  | n + 1, a => if rd hs a < 0 ∨ hs.length ≤ rd hs a then false else if rd hs a = i then true else cycR hs i n (rd hs a)
theorem cycR_iff {hs : List Int} {i : Int} : ∀ (n : Nat) (a : Int), cycR hs i n a = true ↔ ∃ m, m < n ∧ it hs (m + 1) a = i ∧ ∀ t, t ≤ m → inR hs (it hs (t + 1) a)
  | 0, a => by
    constructor
    · intro h; cases h
    · rintro ⟨m, h, -⟩; omega
  | n + 1, a => by
    unfold cycR
    by_cases ho : rd hs a < 0 ∨ hs.length ≤ rd hs a
    · rw [if_pos ho]
      constructor
      · intro h; cases h
      · rintro ⟨m, -, -, h⟩
        have h0 := h 0 (Nat.zero_le _)
        have h1 := h0.1
        have h2 := h0.2
        simp only [it] at h1 h2
        omega
    · rw [if_neg ho]
      have hin : inR hs (rd hs a) := ⟨by omega, by omega⟩
      by_cases he : rd hs a = i
      · rw [if_pos he]
        refine ⟨fun _ => ⟨0, by omega, he, fun t ht => ?_⟩, fun _ => rfl⟩
        obtain rfl : t = 0 := by omega
        exact hin
      · rw [if_neg he, cycR_iff n (rd hs a)]
        constructor
        · rintro ⟨m, h1, h2, h3⟩
          refine ⟨m + 1, by omega, h2, fun t ht => ?_⟩
          cases t with
          | zero => exact hin
          | succ t => exact h3 t (by omega)
        · rintro ⟨m, h1, h2, h3⟩
          cases m with
          | zero => exact absurd h2 he
          | succ m => exact ⟨m, by omega, h2, fun t ht => h3 (t + 1) (by omega)⟩
theorem pigeons : ∀ (n p : Nat) (g : Nat → Nat), (∀ k, k < p → g k < n) → (∀ j k, j < k → k < p → g j ≠ g k) → p ≤ n
  | 0, p, g, h, _ => by
    by_cases hp : p = 0
    · omega
    · exact absurd (h 0 (by omega)) (Nat.not_lt_zero _)
  | n + 1, p, g, h, hi => by
    by_cases he : ∃ k, k < p ∧ g k = n
    · obtain ⟨k0, hk0, hg⟩ := he
      have := pigeons n (p - 1) (fun k => if k < k0 then g k else g (k + 1))
        (fun k hk => by
          by_cases hlt : k < k0
          · simp only [hlt, if_true]
            have h1 := h k (by omega)
            have h2 := hi k k0 hlt hk0
            omega
          · simp only [hlt, if_false]
            have h1 := h (k + 1) (by omega)
            have h2 := hi k0 (k + 1) (by omega) (by omega)
            omega)
        (fun j k hjk hk => by
          by_cases h1 : j < k0
          · by_cases h2 : k < k0
            · simp only [h1, h2, if_true]; exact hi j k hjk (by omega)
            · simp only [h1, h2, if_true, if_false]; exact hi j (k + 1) (by omega) (by omega)
          · have h2 : ¬ k < k0 := by omega
            simp only [h1, h2, if_false]; exact hi (j + 1) (k + 1) (by omega) (by omega))
      omega
    · have := pigeons n p g (fun k hk => by
        have h1 := h k hk
        have h2 : g k ≠ n := fun e => he ⟨k, hk, e⟩
        omega) hi
      omega
theorem least {P : Nat → Prop} : ∀ (n : Nat), P n → ∃ m, P m ∧ ∀ k, k < m → ¬ P k := by
  intro n
  induction n using Nat.strongRecOn with
  | _ n ih =>
    intro h
    by_cases hs : ∃ k, k < n ∧ P k
    · obtain ⟨k, hk, hp⟩ := hs
      exact ih k hk hp
    · exact ⟨n, h, fun k hk hp => hs ⟨k, hk, hp⟩⟩
theorem cyc_same {hs : List Int} {i : Int} (hi : inR hs i) : rdB (cyc hs) i = cycR hs i hs.length i := by
  rw [Bool.eq_iff_iff, cyc_ok hi, cycR_iff]
  constructor
  · rintro ⟨⟨m0, hm0, he0⟩, hin⟩
    obtain ⟨m, ⟨hm, he⟩, hmin⟩ := least (P := fun m => 1 ≤ m ∧ it hs m i = i) m0 ⟨hm0, he0⟩
    have hle : m ≤ hs.length := pigeons hs.length m (fun t => (it hs t i).toNat) (fun k _ => by have h1 := (hin k).1; have h2 := (hin k).2; omega) (fun t u htu hu he2 => by
      have heq : it hs t i = it hs u i := by have h1 := (hin t).1; have h2 := (hin u).1; have : (it hs t i).toNat = (it hs u i).toNat := he2; omega
      refine hmin (t + (m - u)) (by omega) ⟨by omega, ?_⟩
      rw [it_add, heq, ← it_add, Nat.add_sub_cancel' (by omega), he])
    refine ⟨m - 1, by omega, by rw [Nat.sub_add_cancel hm]; exact he, fun t _ => hin _⟩
  · rintro ⟨m, hm, he, hin⟩
    refine ⟨⟨m + 1, by omega, he⟩, fun t => ?_⟩
    induction t using Nat.strongRecOn with
    | _ t ih =>
      by_cases h0 : t = 0
      · subst h0; exact hi
      by_cases ht : t ≤ m
      · have := hin (t - 1) (by omega)
        rwa [Nat.sub_add_cancel (by omega)] at this
      · have hq : it hs t i = it hs (t - (m + 1)) i := by
          have := it_add hs (m + 1) (t - (m + 1)) i
          rw [Nat.add_sub_cancel' (by omega), he] at this
          exact this
        rw [hq]; exact ih _ (by omega)
structure Sep (ts : List S64) : Prop where
  pos : ∀ t ∈ ts, 0 ≤ t.f1 ∧ t.f1 < t.f2
  dis : ts.Pairwise fun a b => a.f2 ≤ b.f1
theorem texts_sepGo {all : List S64} {n : Int} : ∀ (l : List S64) (e : Int) (k : Nat), (textsGo all n e l k).2 = 0 → (∀ t ∈ l, e ≤ t.f1) ∧ l.Pairwise fun a b => a.f2 ≤ b.f1
  | [], _, _, _ => ⟨fun _ h => absurd h List.not_mem_nil, List.Pairwise.nil⟩
  | t :: l, e, k, h => by
    unfold textsGo at h
    split at h
    · simp at h
    split at h
    · simp at h
    split at h
    · simp at h
    split at h
    · simp at h
    split at h
    · rename_i hp; simp at h; simp [h] at hp
    rename_i h5 h6 h7
    have ih := texts_sepGo l t.f2 (k + 1) h
    refine ⟨fun u hu => ?_, List.Pairwise.cons ih.1 ih.2⟩
    rcases List.mem_cons.1 hu with rfl | hu
    · omega
    · have := ih.1 u hu; omega
theorem texts_sep {ts : List S64} {n : Nat} (h : (textsErr ts n).2 = 0) : Sep ts := by
  refine ⟨fun t ht => ⟨(texts_in h t ht).1, (texts_in h t ht).2.1⟩, ?_⟩
  unfold textsErr at h
  split at h
  · simp at h
  split at h
  · simp at h
  exact (texts_sepGo ts 0 0 h).2
theorem inT_iff {p : Int} {t : S64} : inT p t = true ↔ t.f1 ≤ p ∧ p < t.f2 := by simp [inT]
theorem find_sep {p : Int} : ∀ {ts : List S64}, (ts.Pairwise fun a b => a.f2 ≤ b.f1) → ∀ t ∈ ts, inT p t = true → ts.find? (inT p) = some t
  | a :: l, h, t, ht, hi => by
    have hc := List.pairwise_cons.1 h
    rw [List.find?_cons]
    rcases List.mem_cons.1 ht with rfl | ht
    · rw [hi]
    · cases ha : inT p a
      · exact find_sep hc.2 t ht hi
      · have h1 := inT_iff.1 ha
        have h2 := inT_iff.1 hi
        have := hc.1 t ht
        omega
theorem within_eq {ts : List S64} (h : Sep ts) (b e : Int) : (ts.any fun t => decide (t.f1 ≤ b ∧ b < e ∧ e ≤ t.f2)) = inTextB ts b e := by
  rw [Bool.eq_iff_iff, List.any_eq_true]
  unfold inTextB
  constructor
  · rintro ⟨t, ht, hd⟩
    have hd := of_decide_eq_true hd
    rw [find_sep h.dis t ht (inT_iff.2 (by omega))]
    simp only [Bool.and_eq_true, decide_eq_true_eq]
    omega
  · intro hd
    cases hf : ts.find? (inT b) with
    | none => rw [hf] at hd; simp at hd
    | some t =>
      rw [hf] at hd
      simp only [Bool.and_eq_true, decide_eq_true_eq] at hd
      have hi := inT_iff.1 (List.find?_some hf)
      exact ⟨t, List.mem_of_find?_eq_some hf, decide_eq_true (by omega)⟩
theorem inText_pos {ts : List S64} (h : Sep ts) {b e : Int} (hi : inTextB ts b e = true) : 0 ≤ b ∧ b < e := by
  unfold inTextB at hi
  cases hf : ts.find? (inT b) with
  | none => rw [hf] at hi; simp at hi
  | some t =>
    rw [hf] at hi
    simp only [Bool.and_eq_true, decide_eq_true_eq] at hi
    have h1 := inT_iff.1 (List.find?_some hf)
    have h2 := h.pos t (List.mem_of_find?_eq_some hf)
    omega
theorem textAt_same {ts : List S64} (hs : Sep ts) {h k : Int} {j : Nat} {x : S64} (hk : textAt ts k = j) (hx : ts[j]? = some x) : textAt ts h = textAt ts k ↔ x.f1 ≤ h ∧ h < x.f2 := by
  have hxm : x ∈ ts := List.mem_of_getElem? hx
  obtain ⟨hjl, hjx⟩ := List.getElem?_eq_some_iff.1 hx
  rcases textAt_cases ts h with ⟨h1, h2⟩ | ⟨i, y, hi, h1, h2, h3⟩
  · rw [h1, hk]
    constructor
    · intro e; omega
    · intro e
      rw [List.find?_eq_none] at h2
      exact absurd (inT_iff.2 e) (h2 x hxm)
  · rw [h1, hk]
    constructor
    · intro e
      have : i = j := by omega
      subst this
      obtain rfl := Option.some.inj (hx.symm.trans h2)
      exact inT_iff.1 (List.find?_some h3)
    · intro e
      have h4 := find_sep hs.dis x hxm (inT_iff.2 e)
      obtain rfl := Option.some.inj (h4.symm.trans h3)
      obtain ⟨hil, hix⟩ := List.getElem?_eq_some_iff.1 h2
      have hp := List.pairwise_iff_getElem.1 hs.dis
      have hq := hs.pos x hxm
      rcases Nat.lt_trichotomy i j with hlt | rfl | hlt
      · have := hp i j hil hjl hlt
        rw [hix, hjx] at this; omega
      · rfl
      · have := hp j i hjl hil hlt
        rw [hix, hjx] at this; omega
theorem cmpR_f1 {p x : S39} (h : ¬ 0 < cmpR p x) : p.f1 ≤ x.f1 := by
  by_cases hlt : x.f1 < p.f1
  · exfalso
    apply h
    have : cmpI p.f1 x.f1 = 1 := by rw [cmpI, if_neg (by omega), if_pos hlt]
    rw [cmpR, this, if_pos (by decide)]
    decide
  · omega
structure Srt (l : List S39) (k : Nat) (op : List S39) : Prop where
  mk :: (out : ∃ b : Int, op = (l.take k).filter (fun o => decide (b < o.f2)) ∧ (∀ y ∈ l.take k, y.f1 ≤ b) ∧ ∀ p, prevR l k = some p → p.f1 = b)
theorem Srt.zero (l : List S39) : Srt l 0 [] := ⟨⟨0, rfl, fun y h => by simp at h, fun p h => by simp [prevR] at h⟩⟩
theorem Srt.at_ {l op : List S39} {k : Nat} (h : Srt l k op) {x : S39} (hp : prevGt (prevR l k) x = false) (hk : k ≤ l.length) :
    (op.filter fun o => decide (x.f1 < o.f2)) = (l.take k).filter (fun o => decide (x.f1 < o.f2)) ∧ ∀ y ∈ l.take k, y.f1 ≤ x.f1 := by
  obtain ⟨b, rfl, hb, hpb⟩ := h.out
  by_cases hk0 : k = 0
  · subst hk0
    exact ⟨rfl, fun y h => by simp at h⟩
  · have hlt : k - 1 < l.length := by omega
    have hpr : prevR l k = some l[k - 1] := by rw [prevR, if_neg hk0, List.getElem?_eq_getElem hlt]
    have he := hpb _ hpr
    rw [hpr, prevGt] at hp
    have hle := cmpR_f1 (of_decide_eq_false hp)
    have hbx : b ≤ x.f1 := by omega
    refine ⟨?_, fun y hy => Int.le_trans (hb y hy) hbx⟩
    rw [List.filter_filter]
    apply List.filter_congr
    intro o _
    rw [Bool.eq_iff_iff]
    simp only [Bool.and_eq_true, decide_eq_true_eq]
    omega
theorem take_snoc {α : Type} {l : List α} {k : Nat} {x : α} (hx : l[k]? = some x) : l.take (k + 1) = l.take k ++ [x] := by
  rw [List.take_add_one, hx]; rfl
theorem Srt.next {l : List S39} {k : Nat} {x : S39} (hx : l[k]? = some x) (hlt : x.f1 < x.f2) (hy : ∀ y ∈ l.take k, y.f1 ≤ x.f1) :
    Srt l (k + 1) ((l.take k).filter (fun o => decide (x.f1 < o.f2)) ++ [x]) := by
  refine ⟨⟨x.f1, ?_, ?_, ?_⟩⟩
  · rw [take_snoc hx, List.filter_append, List.filter_cons_of_pos (by simpa using hlt)]; rfl
  · intro y hm
    rw [take_snoc hx] at hm
    rcases List.mem_append.1 hm with h | h
    · exact hy y h
    · rw [List.mem_singleton.1 h]; exact Int.le_refl _
  · intro p hp
    rw [prevR, if_neg (by omega), Nat.add_sub_cancel, hx] at hp
    rw [← Option.some.inj hp]
/-- The end of the last of the first nodes with a parent. -/
def lastE (l : List S74) (p : Int) : Nat → Int
  | 0 => 0
  | s + 1 => if par l (s : Int) = p then (rd_T74 l (s : Int)).f2 else lastE l p s
structure NdI (l : List S74) (es ds dr : List Int) (k : Nat) : Prop where
  es_ : ∀ p : Int, -1 ≤ p → p < l.length → rd es (p + 1) = lastE l p k
  ds_ : ∀ j : Nat, j < k → rd dr (j : Int) = rd ds ((j : Int) + 1)
  d0 : rd ds 0 = 0
  dz : ∀ j : Nat, k ≤ j → rd dr (j : Int) = 0
  le : es.length = l.length + 1
  ld : ds.length = l.length + 1
  lr : dr.length = l.length
theorem NdI.zero (l : List S74) : NdI l (List.replicate (l.length + 1) 0) (List.replicate (l.length + 1) 0) (List.replicate l.length 0) 0 :=
  ⟨fun p _ _ => rd_rep _ _, fun j h => absurd h (Nat.not_lt_zero j), rd_rep _ _, fun j _ => rd_rep _ _, by simp, by simp, by simp⟩
theorem NdI.next {l : List S74} {es ds dr : List Int} {k : Nat} (h : NdI l es ds dr k) {p v e : Int} (hk : k < l.length) (hp : par l (k : Int) = p) (hp0 : -1 ≤ p) (hpk : p < k) (he : e = (rd_T74 l (k : Int)).f2) :
    NdI l (es.set (p + 1).toNat e) (ds.set (k + 1) v) (dr.set k v) (k + 1) := by
  have hk1 : (k + 1) = ((k : Int) + 1).toNat := by omega
  have hk0 : k = (k : Int).toNat := by omega
  refine ⟨?_, ?_, ?_, ?_, by rw [List.length_set]; exact h.le, by rw [List.length_set]; exact h.ld, by rw [List.length_set]; exact h.lr⟩
  · intro q hq0 hq1
    rw [rd_set (by omega) (by rw [h.le]; omega) (by omega), lastE, hp, ← he]
    by_cases hqp : q = p
    · subst hqp; rw [if_pos rfl, if_pos rfl]
    · rw [if_neg (by omega), if_neg (fun z => hqp z.symm)]
      exact h.es_ q hq0 hq1
  · intro j hj
    have e1 : rd (dr.set k v) (j : Int) = if (j : Int) = (k : Int) then v else rd dr (j : Int) := by
      have := rd_set (xs := dr) (a := (k : Int)) (x := (j : Int)) (v := v) (by omega) (by rw [h.lr]; omega) (by omega)
      rwa [Int.toNat_natCast] at this
    have e2 : rd (ds.set (k + 1) v) ((j : Int) + 1) = if (j : Int) + 1 = (k : Int) + 1 then v else rd ds ((j : Int) + 1) := by
      have := rd_set (xs := ds) (a := (k : Int) + 1) (x := (j : Int) + 1) (v := v) (by omega) (by rw [h.ld]; omega) (by omega)
      rwa [← hk1] at this
    rw [e1, e2]
    by_cases hjk : j = k
    · rw [if_pos (by omega), if_pos (by omega)]
    · rw [if_neg (by omega), if_neg (by omega)]
      exact h.ds_ j (by omega)
  · have := rd_set (xs := ds) (a := (k : Int) + 1) (x := 0) (v := v) (by omega) (by rw [h.ld]; omega) (by omega)
    rw [← hk1] at this
    rw [this, if_neg (by omega)]
    exact h.d0
  · intro j hj
    have := rd_set (xs := dr) (a := (k : Int)) (x := (j : Int)) (v := v) (by omega) (by rw [h.lr]; omega) (by omega)
    rw [Int.toNat_natCast] at this
    rw [this, if_neg (by omega)]
    exact h.dz j (by omega)
/-- What stands in the reference's list for the parent. -/
theorem NdI.par_ {l : List S74} {es ds dr : List Int} {k : Nat} (h : NdI l es ds dr k) {p : Int} (hp0 : 0 ≤ p) (hpk : p < k) : rd dr p = rd ds (p + 1) := by
  have := h.ds_ p.toNat (by omega)
  rwa [show ((p.toNat : Nat) : Int) = p by omega] at this
theorem ancGo_end {l : List S74} {p v : Int} (h : ¬ (0 ≤ v ∧ v ≠ p)) : ∀ n, ancGo l p n v = v
  | 0 => rfl
  | n + 1 => by rw [ancGo, if_neg h]
end Go.Proofs.Ytkdgholmfnidkaa
