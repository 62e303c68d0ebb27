/- The tokens that lie on a ring of heads. -/
import Derived.Test.YtkdgholmfnidkaaF
namespace Go.Proofs.Ytkdgholmfnidkaa
open Go.RowKit Go.Proofs.YtkdgholmfnidkaaW.PrintWords Go.Proofs.YtkdgholmfnidkaaW.PrintLast Go.Proofs.YtkdgholmfnidkaaW.PrintMore

def rdB (b : List Bool) (i : Int) : Bool := b.getD i.toNat false
def markGo (hs : List Int) (c : Int) : Nat → Int → List Int → Int × List Int
  | 0, a, s => (a, s)
  | n + 1, a, s => if 0 ≤ a ∧ a < hs.length ∧ rd s a = 0 then markGo hs c n (rd hs a) (s.set a.toNat c) else (a, s)
def ringGo (hs : List Int) : Nat → Int → List Bool → List Bool
  | 0, _, b => b
  | n + 1, j, b => if rdB b j = false then ringGo hs n (rd hs j) (b.set j.toNat true) else b
def ringOf (hs : List Int) (k : Nat) (b : List Bool) (m : Int × List Int) : List Bool :=
  if m.1 < 0 ∨ hs.length ≤ m.1 ∨ rd m.2 m.1 ≠ (k : Int) + 1 ∨ rdB b m.1 = true then b else ringGo hs (b.count false) m.1 b
def cycGo (hs : List Int) : Nat → Nat → List Bool → List Int → List Bool
  | 0, _, b, _ => b
  | n + 1, k, b, s => cycGo hs n (k + 1) (ringOf hs k b (markGo hs ((k : Int) + 1) (s.count 0) k s)) (markGo hs ((k : Int) + 1) (s.count 0) k s).2
def cyc (hs : List Int) : List Bool := cycGo hs hs.length 0 (List.replicate hs.length false) (List.replicate hs.length 0)

theorem rd_get {xs : List Int} {a : Int} (h0 : 0 ≤ a) (h1 : a < xs.length) : xs[a.toNat]? = some (rd xs a) := by
  have : a.toNat < xs.length := by omega
  rw [rd, List.getD_eq_getElem?_getD, List.getElem?_eq_getElem this]; rfl
theorem rd_set {xs : List Int} {a x : Int} {v : Int} (h0 : 0 ≤ a) (h1 : a < xs.length) (hx : 0 ≤ x) : rd (xs.set a.toNat v) x = if x = a then v else rd xs x := by
  have : a.toNat < xs.length := by omega
  simp only [rd, List.getD_eq_getElem?_getD, List.getElem?_set, this]
  by_cases h : x = a
  · subst h; simp
  · rw [if_neg (by omega), if_neg h]
theorem rdB_set {b : List Bool} {a x : Int} {v : Bool} (h0 : 0 ≤ a) (h1 : a < b.length) (hx : 0 ≤ x) : rdB (b.set a.toNat v) x = if x = a then v else rdB b x := by
  have : a.toNat < b.length := by omega
  simp only [rdB, List.getD_eq_getElem?_getD, List.getElem?_set, this]
  by_cases h : x = a
  · subst h; simp
  · rw [if_neg (by omega), if_neg h]
theorem count_zero_set {s : List Int} {a c : Int} (h0 : 0 ≤ a) (h1 : a < s.length) (hz : rd s a = 0) (hc : c ≠ 0) : s.count 0 = (s.set a.toNat c).count 0 + 1 := by
  have hl : a.toNat < s.length := by omega
  have hg : s[a.toNat] = 0 := by
    have := rd_get h0 h1
    rw [List.getElem?_eq_getElem hl, hz] at this
    exact Option.some.inj this
  have hpos : 0 < s.count 0 := List.count_pos_iff.2 (hg ▸ List.getElem_mem hl)
  rw [List.count_set hl]
  simp [hg, hc]
  omega
theorem count_false_set {b : List Bool} {a : Int} (h0 : 0 ≤ a) (h1 : a < b.length) (hz : rdB b a = false) : b.count false = (b.set a.toNat true).count false + 1 := by
  have hl : a.toNat < b.length := by omega
  have hg : b[a.toNat] = false := by
    rw [rdB, List.getD_eq_getElem?_getD, List.getElem?_eq_getElem hl] at hz; exact hz
  have hpos : 0 < b.count false := List.count_pos_iff.2 (hg ▸ List.getElem_mem hl)
  rw [List.count_set hl]
  simp [hg]
  omega
theorem markGo_step {hs s : List Int} {c a : Int} (hc : c ≠ 0) (hl : s.length = hs.length) (h0 : 0 ≤ a) (h1 : a < hs.length) (hz : rd s a = 0) :
    markGo hs c (s.count 0) a s = markGo hs c ((s.set a.toNat c).count 0) (rd hs a) (s.set a.toNat c) := by
  rw [count_zero_set h0 (by omega) hz hc, markGo, if_pos ⟨h0, h1, hz⟩]
theorem markGo_end {hs s : List Int} {c a : Int} (h : ¬(0 ≤ a ∧ a < hs.length ∧ rd s a = 0)) : ∀ n, markGo hs c n a s = (a, s)
  | 0 => rfl
  | n + 1 => by rw [markGo, if_neg h]
theorem ringGo_step {hs : List Int} {b : List Bool} {j : Int} (hl : b.length = hs.length) (h0 : 0 ≤ j) (h1 : j < hs.length) (hz : rdB b j = false) :
    ringGo hs (b.count false) j b = ringGo hs ((b.set j.toNat true).count false) (rd hs j) (b.set j.toNat true) := by
  rw [count_false_set h0 (by omega) hz, ringGo, if_pos hz]
theorem ringGo_end {hs : List Int} {b : List Bool} {j : Int} (hz : rdB b j = true) : ∀ n, ringGo hs n j b = b
  | 0 => rfl
  | n + 1 => by rw [ringGo, if_neg (by rw [hz]; decide)]

/-- A block of booleans. -/
structure Jb (w : World) (g : Nat) (xs : List Bool) : Prop where mk :: (out : w.heap[g]? = some (.cells (xs.map Value.bool).toArray 4 (0, 0)))
theorem Jb.at_ {w : World} {g : Nat} {xs : List Bool} (h : Jb w g xs) (i : Int) (h0 : 0 ≤ i) (h1 : i < xs.length) : w.cell? ⟨g, i.toNat, none⟩ = some (.bool (rdB xs i)) ∧ w.frozen? ⟨g, i.toNat, none⟩ = false := by
  refine ⟨?_, blk_frozen h.out _⟩
  rw [blk_cell h.out]
  have : i.toNat < xs.length := by omega
  simp [rdB, List.getD_eq_getElem?_getD, List.getElem?_eq_getElem this]
theorem Jb.set_ {w : World} {g : Nat} {xs : List Bool} (h : Jb w g xs) (i : Nat) (x : Bool) : Jb (w.setCell ⟨g, i, none⟩ (.bool x)) g (xs.set i x) := by
  refine ⟨blk_put h.out _ _ ?_⟩
  simp [List.map_set]
theorem Jb.far {w : World} {g g' i : Nat} {xs : List Bool} (h : Jb w g xs) (hg : g ≠ g') (x : Value) : Jb (w.setCell ⟨g', i, none⟩ x) g xs := ⟨blk_far h.out hg x⟩
theorem Jb.below {w w1 : World} {g : Nat} {xs : List Bool} (h : Jb w g xs) (hb : Below w.heap.size w w1) : Jb w1 g xs := ⟨blk_below h.out hb⟩
theorem Jb.alloc {w : World} {g : Nat} {xs : List Bool} (h : Jb w g xs) (o : Obj) : Jb (w.alloc o) g xs := ⟨blk_alloc h.out o⟩
theorem Jb.made (w : World) (n : Nat) : Jb (w.alloc (.cells (madeCells #[.bool false] n) 4)) w.heap.size (List.replicate n false) := by
  refine ⟨(blk_new w _).trans ?_⟩
  have hl : madeCells #[Value.bool false] n = ((List.replicate n false).map Value.bool).toArray := by
    apply Array.ext
    · simp [madeCells]
    · intro i h1 h2
      simp [madeCells, Nat.mod_one]
  rw [hl]
def zcV : Value → Bool
  | .int _ 0 => true
  | .bool false => true
  | _ => false
/-- How many zeros a block holds. -/
def zc (w : World) (g : Nat) : Nat := match w.heap[g]? with
  | some (.cells cs _ _) => cs.toList.countP zcV
  | _ => 0
theorem zcV_int (x : Int) : zcV (.int .i64 x) = (x == 0) := by
  by_cases h : x = 0
  · subst h; rfl
  · rw [beq_eq_false_iff_ne.2 h]
    unfold zcV
    split <;> simp_all
theorem Ib.zc {w : World} {g : Nat} {xs : List Int} (h : Ib w g xs) : zc w g = xs.count 0 := by
  simp only [Ytkdgholmfnidkaa.zc, h.out, nums, List.countP_map, List.count]
  congr 1
  funext x
  exact zcV_int x
theorem Jb.zc {w : World} {g : Nat} {xs : List Bool} (h : Jb w g xs) : zc w g = xs.count false := by
  simp only [Ytkdgholmfnidkaa.zc, h.out, List.countP_map, List.count]
  congr 1
  funext x
  cases x <;> rfl
/-- What holds between the rounds. -/
structure Cy (hs : List Int) (w wr : World) (b : List Bool) (s : List Int) : Prop where
  lb : b.length = hs.length
  ls : s.length = hs.length
  jb : Jb wr w.heap.size b
  ib : Ib wr (w.heap.size + 1) s
  be : Below w.heap.size w wr
theorem not_ring {hs s : List Int} {b : List Bool} {k : Nat} {a : Int} (h0 : 0 ≤ a) (h1 : a < hs.length) (hc : rd s a = (k : Int) + 1) (hb : rdB b a = false) :
    ¬(a < 0 ∨ hs.length ≤ a ∨ rd s a ≠ (k : Int) + 1 ∨ rdB b a = true) := by
  rw [hb]; simp only [hc, ne_eq, not_true, Bool.false_eq_true, or_false]; omega
theorem Cy.mark {hs : List Int} {w wr : World} {b : List Bool} {s : List Int} (h : Cy hs w wr b s) (j : Nat) (x : Int) : Cy hs w (wr.setCell ⟨w.heap.size + 1, j, none⟩ (.int .i64 x)) b (s.set j x) :=
  ⟨h.lb, by simp [h.ls], h.jb.far (by omega) _, h.ib.set_ _ _, below_set h.be (by omega)⟩
theorem Cy.ring {hs : List Int} {w wr : World} {b : List Bool} {s : List Int} (h : Cy hs w wr b s) (j : Nat) (x : Bool) : Cy hs w (wr.setCell ⟨w.heap.size, j, none⟩ (.bool x)) (b.set j x) s :=
  ⟨by simp [h.lb], h.ls, h.jb.set_ _ _, h.ib.far (by omega) _, below_set h.be (by omega)⟩
/-- Who bears the mark c has a head, and that bears it too, or is a. -/
def clos (hs s : List Int) (c a : Int) : Prop := ∀ x : Int, 0 ≤ x → x < hs.length → rd s x = c → rd hs x = a ∨ (0 ≤ rd hs x ∧ rd hs x < hs.length ∧ rd s (rd hs x) = c)
theorem clos_step {hs s : List Int} {c a : Int} (hl : s.length = hs.length) (h : clos hs s c a) (h0 : 0 ≤ a) (h1 : a < hs.length) : clos hs (s.set a.toNat c) c (rd hs a) := by
  intro x hx0 hx1 hx
  rw [rd_set h0 (by omega) hx0] at hx
  by_cases hxa : x = a
  · subst hxa; exact .inl rfl
  · rw [if_neg hxa] at hx
    rcases h x hx0 hx1 hx with h' | ⟨p, q, r⟩
    · right
      rw [h']
      refine ⟨h0, h1, ?_⟩
      rw [rd_set h0 (by omega) h0, if_pos rfl]
    · right
      refine ⟨p, q, ?_⟩
      rw [rd_set h0 (by omega) p]
      split
      · rfl
      · exact r
theorem clos_first {hs s : List Int} {k : Nat} (hl : s.length = hs.length) (h : ∀ x ∈ s, x ≤ (k : Int)) (a : Int) : clos hs s ((k : Int) + 1) a := by
  intro x hx0 hx1 hx
  have := h (rd s x) (rd_mem s x hx0 (by omega))
  omega
theorem marks_set {s : List Int} {k : Nat} {j : Nat} (h : ∀ x ∈ s, x ≤ (k : Int) + 1) : ∀ x ∈ s.set j ((k : Int) + 1), x ≤ (k : Int) + 1 := by
  intro x hx
  rcases List.mem_or_eq_of_mem_set hx with h' | rfl
  · exact h x h'
  · exact Int.le_refl _
set_option maxHeartbeats 8000000 in
set_option maxRecDepth 100000 in
theorem cycles_calls (A : Option Addr) (c : Nat) (hs : List Int) (w : World) (hr : (Kd.int .i64).C w A hs.length hs) (hn : hs.length ≤ 1000000000) :
    Calls Try.prog 78 #[.slice A hs.length c] w fun e w' => e = .returned (.slice (some ⟨w.heap.size, 0, none⟩) hs.length hs.length) ∧ Jb w' w.heap.size (cyc hs) ∧ Below w.heap.size w w' := by
  have HR := Aside0.mk hr
  clear hr
  have hmk : ∀ W : World, (Instr.makeSlice 97 (.int .i64 (hs.length : Int)) (.int .i64 (hs.length : Int))).run Try.prog W = .ok (.slice (some ⟨W.heap.size, 0, none⟩) hs.length hs.length) (W.alloc (.cells (madeCells #[.bool false] hs.length) 4)) :=
    print_make_of (P := Try.prog) 97 4 (.bool false) 1 Try.underlying97 info4 rfl (by decide) hs.length (by omega)
  have hmk2 : ∀ W : World, (Instr.makeSlice 27 (.int .i64 (hs.length : Int)) (.int .i64 (hs.length : Int))).run Try.prog W = .ok (.slice (some ⟨W.heap.size, 0, none⟩) hs.length hs.length) (W.alloc (.cells (madeCells #[.int .i64 0] hs.length) 3)) :=
    print_make (P := Try.prog) 27 3 .i64 8 Try.underlying27 info3 (by decide) hs.length (by omega)
  go_enter Try.func78, Try.ntmps78
  go_wp2
  clear hmk hmk2
  have C0 : Cy hs w ((w.alloc (.cells (madeCells #[.bool false] hs.length) 4)).alloc (.cells (madeCells #[.int .i64 0] hs.length) 3)) (List.replicate hs.length false) (List.replicate hs.length 0) := by
    refine ⟨by simp, by simp, (Jb.made w hs.length).alloc _, ?_, below_alloc (below_alloc (Below.refl _ _) _) _⟩
    have h := Ib.made (w.alloc (.cells (madeCells #[.bool false] hs.length) 4)) hs.length
    rwa [World.size_alloc] at h
  go_loopw [16] (fun i wr => ∃ (k : Nat) (b : List Bool) (s : List Int), k ≤ hs.length ∧ i = .int .i64 k ∧ Aside0 (cyc hs = cycGo hs (hs.length - k) k b s) ∧ Aside0 (∀ x ∈ s, x ≤ (k : Int)) ∧ Aside0 (Cy hs w wr b s)) (fun i _ => hs.length - (intOf i).toNat)
  case atStart => exact ⟨0, _, _, Nat.zero_le _, rfl, ⟨rfl⟩, ⟨fun x hx => by rw [List.eq_of_mem_replicate hx]; omega⟩, ⟨C0⟩⟩
  case round =>
    clear C0
    obtain ⟨k, b, s, hk, rfl, HN, HM, HC⟩ := hrel
    by_cases hlt : k < hs.length
    · have HE := Aside0.mk (HN.out.trans (by rw [show hs.length - k = (hs.length - (k + 1)) + 1 by omega, cycGo]))
      have hkw : IntKind.i64.wrap ((k : Int) + 1) = (k : Int) + 1 := IntWalk.i64_in _ (by omega)
      clear HN
      go_wp2
      go_loopw [6] (fun v wr2 => ∃ (a : Int) (s2 : List Int), v = .int .i64 a ∧ Aside0 (markGo hs ((k : Int) + 1) (s.count 0) k s = markGo hs ((k : Int) + 1) (s2.count 0) a s2) ∧ Aside0 (∀ x ∈ s2, x ≤ (k : Int) + 1) ∧ Aside0 (clos hs s2 ((k : Int) + 1) a) ∧ Aside0 (Cy hs w wr2 b s2)) (fun _ wr2 => zc wr2 (w.heap.size + 1))
      case atStart => exact ⟨k, s, rfl, ⟨rfl⟩, ⟨fun x hx => by have := HM.out x hx; omega⟩, ⟨clos_first HC.out.ls HM.out _⟩, HC⟩
      case round =>
        obtain ⟨a, s2, rfl, HF, HM2, HL, HC2⟩ := hrel
        by_cases h0 : 0 ≤ a
        rotate_left
        · have HFE := Aside0.mk (HF.out.trans (markGo_end (fun h => h0 h.1) _))
          go_wp2
          go_roundw
          case rel => exact ⟨k + 1, b, s2, by omega, by go_num, ⟨by rw [HE.out, HFE.out, ringOf, if_pos (.inl (by simpa using h0))]⟩, HM2, HC2⟩
          case measure => simp [intOf]; omega
        by_cases h1 : a < hs.length
        rotate_left
        · have HFE := Aside0.mk (HF.out.trans (markGo_end (fun h => h1 h.2.1) _))
          go_wp2
          go_roundw
          case rel => exact ⟨k + 1, b, s2, by omega, by go_num, ⟨by rw [HE.out, HFE.out, ringOf, if_pos (.inr (.inl (by simpa using h1)))]⟩, HM2, HC2⟩
          case measure => simp [intOf]; omega
        have q := HC2.out.ib.at_ a h0 (by have := HC2.out.ls; omega)
        obtain ⟨ad, y, rfl, -, hy, g0⟩ := elI HR ⟨HC2.out.be⟩ a.toNat (by omega)
        by_cases hz : rd s2 a = 0
        · have hzb : (rd s2 a == 0) = true := by simp [hz]
          have C3 : Cy hs w _ b (s2.set a.toNat ((k : Int) + 1)) := HC2.out.mark a.toNat ((k : Int) + 1)
          go_upto_region 9 with fail
          have hzc := HC2.out.ib.zc
          have hzs := count_zero_set (c := (k : Int) + 1) h0 (by have := HC2.out.ls; omega) hz (by omega)
          generalize World.setCell _ ⟨w.heap.size + 1, a.toNat, none⟩ (.int .i64 ((k : Int) + 1)) = W3 at C3 ⊢
          obtain ⟨ad', y', hA, -, hy', g0⟩ := elI HR ⟨C3.be⟩ a.toNat (by omega)
          obtain rfl := Option.some.inj hA
          have hya : y' = rd hs a := by have := rd_get h0 h1; rw [hy'.out] at this; exact Option.some.inj this
          subst hya
          go_wp2
          go_roundw
          case rel => exact ⟨rd hs a, s2.set a.toNat ((k : Int) + 1), rfl, ⟨HF.out.trans (markGo_step (by omega) HC2.out.ls h0 h1 hz)⟩, ⟨marks_set HM2.out⟩, ⟨clos_step HC2.out.ls HL.out h0 h1⟩, ⟨C3⟩⟩
          case measure => rw [C3.ib.zc, hzc, hzs]; omega
        have hzb : (rd s2 a == 0) = false := by simp [hz]
        have HFE := Aside0.mk (HF.out.trans (markGo_end (fun h => hz h.2.2) _))
        have qb := HC2.out.jb.at_ a h0 (by have := HC2.out.lb; omega)
        by_cases hc : rd s2 a = (k : Int) + 1
        rotate_left
        · have hcb : (rd s2 a != (k : Int) + 1) = true := by simp [hc]
          go_wp2
          go_roundw
          case rel => exact ⟨k + 1, b, s2, by omega, by go_num, ⟨by rw [HE.out, HFE.out, ringOf, if_pos (.inr (.inr (.inl hc)))]⟩, HM2, HC2⟩
          case measure => simp [intOf]; omega
        have hcb : (rd s2 a != (k : Int) + 1) = false := by simp [hc]
        cases hb : rdB b a
        rotate_left
        · rw [hb] at qb
          go_wp2
          go_roundw
          case rel => exact ⟨k + 1, b, s2, by omega, by go_num, ⟨by rw [HE.out, HFE.out, ringOf, if_pos (.inr (.inr (.inr hb)))]⟩, HM2, HC2⟩
          case measure => simp [intOf]; omega
        replace HE := Aside0.mk (HE.out.trans (by rw [HFE.out, ringOf, if_neg (not_ring h0 h1 hc hb)]))
        replace HL : Aside0 (∀ x : Int, 0 ≤ x → x < hs.length → rd s2 x = (k : Int) + 1 → 0 ≤ rd hs x ∧ rd hs x < hs.length ∧ rd s2 (rd hs x) = (k : Int) + 1) := ⟨fun x p q r => (HL.out x p q r).elim (fun h => h ▸ ⟨h0, h1, hc⟩) id⟩
        rw [hb] at qb
        go_wp2
        go_loopw [7] (fun v wr3 => ∃ (j : Int) (b2 : List Bool), v = .int .i64 j ∧ 0 ≤ j ∧ j < hs.length ∧ rd s2 j = (k : Int) + 1 ∧ Aside0 (ringGo hs (b.count false) a b = ringGo hs (b2.count false) j b2) ∧ Aside0 (Cy hs w wr3 b2 s2)) (fun _ wr3 => zc wr3 w.heap.size)
        case atStart => exact ⟨a, b, rfl, h0, h1, hc, ⟨rfl⟩, HC2⟩
        case round =>
          clear qb q hcb hzb hc hz g0
          obtain ⟨j, b2, rfl, j0, j1, hc, HG, HC3⟩ := hrel
          have qb := HC3.out.jb.at_ j j0 (by have := HC3.out.lb; omega)
          cases hb2 : rdB b2 j
          · rw [hb2] at qb
            have C4 : Cy hs w _ (b2.set j.toNat true) s2 := HC3.out.ring j.toNat true
            go_upto_region 13 with fail
            have hzc := HC3.out.jb.zc
            have hzs := count_false_set j0 (by have := HC3.out.lb; omega) hb2
            generalize World.setCell _ ⟨w.heap.size, j.toNat, none⟩ (.bool true) = W4 at C4 ⊢
            obtain ⟨ad', y', hA, -, hy', g0⟩ := elI HR ⟨C4.be⟩ j.toNat (by omega)
            obtain rfl := Option.some.inj hA
            have hya : y' = rd hs j := by have := rd_get j0 j1; rw [hy'.out] at this; exact Option.some.inj this
            subst hya
            have hnx := HL.out j j0 j1 hc
            go_wp2
            go_roundw
            case rel => exact ⟨rd hs j, b2.set j.toNat true, rfl, hnx.1, hnx.2.1, hnx.2.2, ⟨HG.out.trans (ringGo_step HC3.out.lb j0 j1 hb2)⟩, ⟨C4⟩⟩
            case measure => rw [C4.jb.zc, hzc, hzs]; omega
          · rw [hb2] at qb
            go_wp2
            go_roundw
            case rel => exact ⟨k + 1, b2, s2, by omega, by go_num, ⟨by rw [HE.out, HG.out, ringGo_end hb2]⟩, HM2, HC3⟩
            case measure => simp [intOf]; omega
    · go_wp2
      go_ret
      exact ⟨rfl, by rw [HN.out, show hs.length - k = 0 by omega, cycGo]; exact HC.out.jb, HC.out.be⟩
end Go.Proofs.Ytkdgholmfnidkaa
