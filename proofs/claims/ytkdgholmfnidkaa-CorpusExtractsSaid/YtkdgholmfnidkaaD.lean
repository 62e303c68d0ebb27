/- The first parts of a corpus (attributes, tokens, texts): what each check returns. -/
import Derived.Test.YtkdgholmfnidkaaC
namespace Go.Proofs.Ytkdgholmfnidkaa
open Go.RowKit Go.Proofs.YtkdgholmfnidkaaW.PrintWords Go.Proofs.YtkdgholmfnidkaaW.PrintLast Go.Proofs.YtkdgholmfnidkaaW.PrintMore

/-- The world behind a struct's box: the box lies at w's end, nothing up to it has turned. -/
structure Bx (w : World) (cs : Array Value) (t : TypeId) (wr : World) : Prop where mk :: (out : Below (w.alloc (.cells cs t)).heap.size (w.alloc (.cells cs t)) wr)
section
variable {w wr w2 : World} {cs : Array Value} {t : TypeId}
theorem Bx.refl (w : World) (cs : Array Value) (t : TypeId) : Bx w cs t (w.alloc (.cells cs t)) := ⟨Below.refl _ _⟩
theorem Bx.alloc (h : Bx w cs t wr) (o : Obj) : Bx w cs t (wr.alloc o) := ⟨below_alloc h.out o⟩
theorem Bx.drewN (h : Bx w cs t wr) (n : Nat) : Bx w cs t (wr.drewN n) := ⟨pw_below_drewN h.out n⟩
theorem Bx.step (h : Bx w cs t wr) (k : Below wr.heap.size wr w2) : Bx w cs t w2 := ⟨below_step h.out k⟩
theorem Bx.below (h : Bx w cs t wr) : Below w.heap.size w wr := (below_alloc (Below.refl _ _) _).trans (h.out.mono (by simp))
theorem Bx.bel (h : Bx w cs t wr) : Aside0 (Below w.heap.size w wr) := ⟨h.below⟩
theorem Bx.size (h : Bx w cs t wr) : w.heap.size < wr.heap.size := by have := h.out.size; simp at this; omega
theorem Bx.blk (h : Bx w cs t wr) : wr.heap[w.heap.size]? = some (.cells cs t (0, 0)) := (h.out.block _ (by simp)).trans (blk_new w _)
theorem Bx.at_ (h : Bx w cs t wr) (i : Nat) : wr.cell? ⟨w.heap.size, i, none⟩ = cs[i]? := blk_cell h.blk i
end

def attrsGo (all : List S62) : List S62 → Nat → Int × Int
  | [], _ => (0, 0)
  | a :: l, k => if validName a.f0 = false then ((k : Int), 4) else if ((all.take k).any fun b => b.f0.toList == a.f0.toList) = true then ((k : Int), 5) else attrsGo all l (k + 1)
def attrsErr (l : List S62) : Int × Int := if l.length = 0 then (0, 15) else if 8 < l.length then (0, 2) else attrsGo l l 0
theorem ret_two {p q : Int} {r : Int × Int} (h : r = (p, q)) : Ending.returned (.tuple #[.int .i64 p, .int .i64 q]) = .returned (.tuple #[.int .i64 r.1, .int .i64 r.2]) := by rw [h]
set_option maxHeartbeats 2000000 in
set_option maxRecDepth 100000 in
theorem attributes_calls (v1 v2 v3 v4 v5 v6 : Value) (A : Option Addr) (c : Nat) (l : List S62) (w : World) (hr : Kd.C k62 w A l.length l) (hlc : l.length ≤ c) (hok : ∀ a ∈ l, a.f0.size ≤ 140737488351232) :
    Calls Try.prog 33 #[.agg #[.slice A l.length c, v1, v2, v3, v4, v5, v6]] w fun e w' => e = .returned (.tuple #[.int .i64 (attrsErr l).1, .int .i64 (attrsErr l).2]) ∧ Below w.heap.size w w' := by
  have hu30 := Try.underlying30
  have hu62 := Try.underlying62
  have hm := Kd.C_max hr
  have HR := Aside0.mk hr
  have HK := Aside0.mk hok
  clear hr hok
  by_cases h0 : l.length = 0
  · have h0' : ((l.length : Int) == 0) = true := by simp [h0]
    have HE : Aside0 (attrsErr l = (0, 15)) := ⟨by rw [attrsErr, if_pos h0]⟩
    clear h0
    go_enter Try.func33, Try.ntmps33
    go_wp2
    go_ret2
    exact ⟨ret_two HE.out, below_alloc (Below.refl _ _) _⟩
  have h0' : ((l.length : Int) == 0) = false := beq_eq_false_iff_ne.2 (by omega)
  by_cases h8 : 8 < l.length
  · have HE : Aside0 (attrsErr l = (0, 2)) := ⟨by rw [attrsErr, if_neg h0, if_pos h8]⟩
    go_enter Try.func33, Try.ntmps33
    go_wp2
    go_ret2
    exact ⟨ret_two HE.out, below_alloc (Below.refl _ _) _⟩
  have H0 : Aside0 (attrsErr l = attrsGo l (l.drop 0) 0) := ⟨by rw [attrsErr, if_neg h0, if_neg h8]; rfl⟩
  go_enter Try.func33, Try.ntmps33
  go_wp2
  go_loopw [21] (fun i wr => ∃ k : Nat, k ≤ l.length ∧ i = .int .i64 k ∧ Aside0 (attrsErr l = attrsGo l (l.drop k) k) ∧ Bx w #[.slice A l.length c, v1, v2, v3, v4, v5, v6] 30 wr) (fun i _ => l.length - (intOf i).toNat)
  case atStart => exact ⟨0, Nat.zero_le _, rfl, H0, Bx.refl _ _ _⟩
  case round =>
    clear H0
    obtain ⟨k, hk, rfl, HN, HB⟩ := hrel
    by_cases hlt : k < l.length
    · obtain ⟨ad, x, rfl, hd, hx, g0, g1⟩ := el62 HR HB.bel k hlt
      have hs0 : x.f0.size ≤ 9223372036854775807 := by have := HK.out x (List.mem_of_getElem? hx.out); omega
      have HE := Aside0.mk (HN.out.trans (by rw [hd.out]))
      have b0 := (HB.at_ 0).trans rfl
      have hbs := HB.size
      clear HN
      cases hv : validName x.f0
      · go_wp2_with (go_at_call 72; refine (ValidName_calls _ _ hs0).mono ?_; rintro e w1 ⟨rfl, rfl⟩)
        go_ret2
        exact ⟨ret_two (by rw [HE.out, attrsGo, if_pos hv]), below_alloc HB.below _⟩
      · replace HE := Aside0.mk (HE.out.trans (by rw [attrsGo, if_neg (by rw [hv]; decide)]))
        go_wp2_with (go_at_call 72; refine (ValidName_calls _ _ hs0).mono ?_; rintro e w1 ⟨rfl, rfl⟩)
        go_loopw [36] (fun i wr2 => ∃ j : Nat, j ≤ k ∧ i = .int .i64 j ∧ Aside0 (((l.take k).any fun b => b.f0.toList == x.f0.toList) = ((l.drop j).take (k - j)).any fun b => b.f0.toList == x.f0.toList) ∧ Bx wr #[.string x.f0, .bool x.f1] 62 wr2) (fun i _ => k - (intOf i).toNat)
        case atStart => exact ⟨0, Nat.zero_le _, rfl, ⟨by simp⟩, Bx.refl _ _ _⟩
        case round =>
          obtain ⟨j, hj, rfl, HN, HB2⟩ := hrel
          have HBw := HB.step HB2.below
          have b1 := (HB2.at_ 0).trans rfl
          by_cases hjk : j < k
          · obtain ⟨ad', y, hA, hdy, -, q0, q1⟩ := el62 HR HBw.bel j (by omega)
            obtain rfl := Option.some.inj hA
            have HY := Aside0.mk (HN.out.trans (by rw [hdy.out, show k - j = (k - (j + 1)) + 1 by omega, List.take_succ_cons, List.any_cons] : _ = ((y.f0.toList == x.f0.toList) || ((l.drop (j + 1)).take (k - (j + 1))).any fun b => b.f0.toList == x.f0.toList)))
            have hbs2 := HB2.size
            clear HN
            cases he : y.f0.toList == x.f0.toList
            · go_wp2
              go_roundw
              case rel => exact ⟨j + 1, by omega, by go_num, ⟨by rw [HY.out, he]; rfl⟩, HB2.alloc _⟩
              case measure => simp [intOf]; omega
            · go_wp2
              go_ret2
              exact ⟨ret_two (by rw [HE.out, if_pos (by rw [HY.out, he]; rfl)]), below_alloc HBw.below _⟩
          · go_wp2
            go_roundw
            case rel => exact ⟨k + 1, by omega, by go_num, ⟨by rw [HE.out, if_neg (by rw [HN.out, show k - j = 0 by omega]; simp)]⟩, HBw⟩
            case measure => simp [intOf]; omega
    · go_wp2
      go_ret2
      exact ⟨ret_two (by rw [HN.out, List.drop_eq_nil_of_le (by omega)]; rfl), HB.below⟩
def valsErr : List S62 → List ByteArray → Int
  | a :: l, v :: vs => if (valErr a.f1 v != 0) = true then valErr a.f1 v else valsErr l vs
  | _, _ => 0
def toksGo (attrs : List S62) : List (List ByteArray) → Nat → Int × Int
  | [], _ => (0, 0)
  | t :: l, k => if t.length ≠ attrs.length then ((k : Int), 15) else if (valsErr attrs t != 0) = true then ((k : Int), valsErr attrs t) else toksGo attrs l (k + 1)
def toksErr (attrs : List S62) (l : List (List ByteArray)) : Int × Int := if 4096 < l.length then (0, 2) else toksGo attrs l 0
set_option maxHeartbeats 4000000 in
set_option maxRecDepth 100000 in
theorem tokens_calls (v2 v3 v4 v5 v6 : Value) (A A1 : Option Addr) (c c1 : Nat) (at_ : List S62) (l : List (List ByteArray)) (w : World) (hr : Kd.C k62 w A at_.length at_) (hr1 : Kd.C (Kd.slice 9 Kd.string) w A1 l.length l) (hok : ∀ t ∈ l, ∀ v ∈ t, v.size ≤ 140737488351232) :
    Calls Try.prog 34 #[.agg #[.slice A at_.length c, .slice A1 l.length c1, v2, v3, v4, v5, v6]] w fun e w' => e = .returned (.tuple #[.int .i64 (toksErr at_ l).1, .int .i64 (toksErr at_ l).2]) ∧ Below w.heap.size w w' := by
  have hu30 := Try.underlying30
  have hu62 := Try.underlying62
  have hm := Kd.C_max hr
  have hm1 := Kd.C_max hr1
  have HR := Aside0.mk hr
  have HR1 := Aside0.mk hr1
  have HK := Aside0.mk hok
  clear hr hok hr1
  by_cases h8 : 4096 < l.length
  · have HE : Aside0 (toksErr at_ l = (0, 2)) := ⟨by rw [toksErr, if_pos h8]⟩
    go_enter Try.func34, Try.ntmps34
    go_wp2
    go_ret2
    exact ⟨ret_two HE.out, below_alloc (Below.refl _ _) _⟩
  have H0 : Aside0 (toksErr at_ l = toksGo at_ (l.drop 0) 0) := ⟨by rw [toksErr, if_neg h8]; rfl⟩
  go_enter Try.func34, Try.ntmps34
  go_wp2
  go_loopw [16] (fun i wr => ∃ k : Nat, k ≤ l.length ∧ i = .int .i64 k ∧ Aside0 (toksErr at_ l = toksGo at_ (l.drop k) k) ∧ Bx w #[.slice A at_.length c, .slice A1 l.length c1, v2, v3, v4, v5, v6] 30 wr) (fun i _ => l.length - (intOf i).toNat)
  case atStart => exact ⟨0, Nat.zero_le _, rfl, H0, Bx.refl _ _ _⟩
  case round =>
    clear H0
    obtain ⟨k, hk, rfl, HN, HB⟩ := hrel
    by_cases hlt : k < l.length
    · obtain ⟨ad, x, A0, c0, rfl, hd, hx, g0, HL0, HR0⟩ := elL HR1 HB.bel k hlt
      have hs0 := Aside0.mk (HK.out x (List.mem_of_getElem? hx.out))
      have HE := Aside0.mk (HN.out.trans (by rw [hd.out, toksGo]))
      have b0 := (HB.at_ 0).trans rfl
      have hbs := HB.size
      have hmx := Kd.C_max HR0.out
      clear HN
      by_cases hln : x.length = at_.length
      · have hln' : ((x.length : Int) != (at_.length : Int)) = false := by rw [hln]; simp
        have HLN := Aside0.mk hln
        replace HE := Aside0.mk (HE.out.trans (by rw [if_neg (by simp [hln])]))
        clear hln
        go_wp2
        go_loopw [30] (fun i wr2 => ∃ j : Nat, j ≤ x.length ∧ i = .int .i64 j ∧ Aside0 (valsErr at_ x = valsErr (at_.drop j) (x.drop j)) ∧ Bx w #[.slice A at_.length c, .slice (some ad) l.length c1, v2, v3, v4, v5, v6] 30 wr2) (fun i _ => x.length - (intOf i).toNat)
        case atStart => exact ⟨0, Nat.zero_le _, rfl, ⟨rfl⟩, HB⟩
        case round =>
          clear HB
          obtain ⟨j, hj, rfl, HN, HB⟩ := hrel
          have b0 := (HB.at_ 0).trans rfl
          by_cases hjk : j < x.length
          · obtain ⟨ad', v, rfl, hdv, hv, q0⟩ := elS (⟨Kd.C_below HR0.out HB.below⟩ : Aside0 (Kd.string.C _ _ _ _)) (bel_refl _) j hjk
            have hja : j < at_.length := by have := HLN.out; omega
            obtain ⟨ad2, a, rfl, hda, -, p0, p1⟩ := el62 HR HB.bel j hja
            have hsv := hs0.out v (List.mem_of_getElem? hv.out)
            have HY := Aside0.mk (HN.out.trans (by rw [hdv.out, hda.out, valsErr]))
            clear HN
            cases he : valErr a.f1 v != 0
            · go_wp2_with (go_at_call 73; refine (errorOfValue_calls _ _ _ _ hsv).mono ?_; rintro e w1 ⟨rfl, hb⟩)
              go_roundw
              case rel => exact ⟨j + 1, by omega, by go_num, ⟨by rw [HY.out, if_neg (by rw [he]; decide)]⟩, HB.step hb⟩
              case measure => simp [intOf]; omega
            · replace HY := Aside0.mk (HY.out.trans (by rw [if_pos he]))
              go_wp2_with (go_at_call 73; refine (errorOfValue_calls _ _ _ _ hsv).mono ?_; rintro e w1 ⟨rfl, hb⟩)
              go_ret2
              exact ⟨ret_two (by rw [HE.out, HY.out, if_pos he]), (HB.step hb).below⟩
          · go_wp2
            go_roundw
            case rel => exact ⟨k + 1, by omega, by go_num, ⟨by rw [HE.out, if_neg]; rw [HN.out, List.drop_eq_nil_of_le (show x.length ≤ j by omega)]; cases at_.drop j <;> simp [valsErr]⟩, HB⟩
            case measure => simp [intOf]; omega
      · have hln' : ((x.length : Int) != (at_.length : Int)) = true := by simp; omega
        replace HE := Aside0.mk (HE.out.trans (by rw [if_pos hln]))
        go_wp2
        go_ret2
        exact ⟨ret_two HE.out, HB.below⟩
    · go_wp2
      go_ret2
      exact ⟨ret_two (by rw [HN.out, List.drop_eq_nil_of_le (by omega)]; rfl), HB.below⟩
def textsGo (all : List S64) (n : Int) : Int → List S64 → Nat → Int × Int
  | _, [], _ => (0, 0)
  | e, t :: l, k => if validName t.f0 = false then ((k : Int), 4) else if findText all t.f0 < (k : Int) then ((k : Int), 5) else if t.f1 ≠ e ∨ t.f2 ≤ t.f1 ∨ n < t.f2 then ((k : Int), 8)
      else if k + 1 = all.length ∧ t.f2 ≠ n then ((k : Int), 8) else if (pairsErr t.f3 != 0) = true then ((k : Int), pairsErr t.f3) else textsGo all n t.f2 l (k + 1)
def textsErr (l : List S64) (n : Nat) : Int × Int := if 64 < l.length then (0, 2) else if (!(((l.length : Int) == 0) == ((n : Int) == 0))) = true then (0, 15) else textsGo l n 0 l 0
def okT (t : S64) : Prop := t.f0.size ≤ 140737488351232 ∧ ∀ p ∈ t.f3, okP p
set_option maxHeartbeats 4000000 in
set_option maxRecDepth 100000 in
theorem texts_calls (v0 v3 v4 v5 v6 : Value) (A A1 : Option Addr) (c c1 : Nat) (l : List S64) (n : Nat) (w : World) (hr : Kd.C k64 w A l.length l) (_ : n ≤ 9223372036854775807) (hok : ∀ t ∈ l, okT t) :
    Calls Try.prog 35 #[.agg #[v0, .slice A1 n c1, .slice A l.length c, v3, v4, v5, v6]] w fun e w' => e = .returned (.tuple #[.int .i64 (textsErr l n).1, .int .i64 (textsErr l n).2]) ∧ Below w.heap.size w w' := by
  have hu30 := Try.underlying30
  have hu64 := Try.underlying64
  have hm := Kd.C_max hr
  have HR := Aside0.mk hr
  have HK := Aside0.mk hok
  clear hr hok
  by_cases h8 : 64 < l.length
  · have HE : Aside0 (textsErr l n = (0, 2)) := ⟨by rw [textsErr, if_pos h8]⟩
    go_enter Try.func35, Try.ntmps35
    go_wp2
    go_ret2
    exact ⟨ret_two HE.out, below_alloc (Below.refl _ _) _⟩
  cases h9 : !(((l.length : Int) == 0) == ((n : Int) == 0))
  · have H0 : Aside0 (textsErr l n = textsGo l n 0 (l.drop 0) 0) := ⟨by rw [textsErr, if_neg h8, if_neg (by rw [h9]; decide)]; rfl⟩
    go_enter Try.func35, Try.ntmps35
    go_wp2
    go_loopw [4, 26] (fun en i wr => ∃ (k : Nat) (e : Int), k ≤ l.length ∧ en = .int .i64 e ∧ i = .int .i64 k ∧ Aside0 (textsErr l n = textsGo l n e (l.drop k) k) ∧ Bx w #[v0, .slice A1 n c1, .slice A l.length c, v3, v4, v5, v6] 30 wr) (fun _ i _ => l.length - (intOf i).toNat)
    case atStart => exact ⟨0, 0, Nat.zero_le _, rfl, rfl, H0, Bx.refl _ _ _⟩
    case round =>
      clear H0
      obtain ⟨k, en, hk, rfl, rfl, HN, HB⟩ := hrel
      by_cases hlt : k < l.length
      · obtain ⟨ad, x, A3, c3, rfl, hd, hx, g0, g1, g2, g3, HL3, HR3⟩ := el64 HR HB.bel k hlt
        have hox := HK.out x (List.mem_of_getElem? hx.out)
        have hs0 : x.f0.size ≤ 9223372036854775807 := by have := hox.1; omega
        have hs3 := hox.2
        have HE := Aside0.mk (HN.out.trans (by rw [hd.out, textsGo]))
        have b7 := HB.at_
        have hbs := HB.size
        clear HN hox
        cases hv : validName x.f0
        · go_wp2_with (go_at_call 72; refine (ValidName_calls _ _ hs0).mono ?_; rintro e w1 ⟨rfl, rfl⟩)
          go_ret2
          exact ⟨ret_two (by rw [HE.out, if_pos hv]), below_alloc HB.below _⟩
        replace HE := Aside0.mk (HE.out.trans (by rw [if_neg (by rw [hv]; decide)]))
        by_cases hf : findText l x.f0 < (k : Int)
        · go_wp2_with (first | (go_at_call 72; refine (ValidName_calls _ _ hs0).mono ?_; rintro e w1 ⟨rfl, rfl⟩) | (go_at_call 23; refine (FindText_calls _ _ _ _ _ _ _ _ _ _ _ (Kd.C_below HR.out (below_alloc HB.below _))).mono ?_; rintro e w2 ⟨rfl, hb2⟩; have k7 := ((HB.alloc _).step hb2).at_; have x7 := ((Bx.refl wr #[.string x.f0, .int .i64 x.f1, .int .i64 x.f2, .slice A3 x.f3.length c3] 64).step hb2).at_))
          go_ret2
          exact ⟨ret_two (by rw [HE.out, if_pos hf]), (((HB.alloc _).step hb2).below)⟩
        replace HE := Aside0.mk (HE.out.trans (by rw [if_neg hf]))
        cases h1 : x.f1 != en
        rotate_left
        · replace HE := Aside0.mk (HE.out.trans (by rw [if_pos (Or.inl (by simpa using h1))]))
          go_wp2_with (first | (go_at_call 72; refine (ValidName_calls _ _ hs0).mono ?_; rintro e w1 ⟨rfl, rfl⟩) | (go_at_call 23; refine (FindText_calls _ _ _ _ _ _ _ _ _ _ _ (Kd.C_below HR.out (below_alloc HB.below _))).mono ?_; rintro e w2 ⟨rfl, hb2⟩; have k7 := ((HB.alloc _).step hb2).at_; have x7 := ((Bx.refl wr #[.string x.f0, .int .i64 x.f1, .int .i64 x.f2, .slice A3 x.f3.length c3] 64).step hb2).at_))
          go_ret2
          exact ⟨ret_two HE.out, (((HB.alloc _).step hb2).below)⟩
        by_cases h2 : x.f2 ≤ x.f1
        · replace HE := Aside0.mk (HE.out.trans (by rw [if_pos (Or.inr (Or.inl h2))]))
          go_wp2_with (first | (go_at_call 72; refine (ValidName_calls _ _ hs0).mono ?_; rintro e w1 ⟨rfl, rfl⟩) | (go_at_call 23; refine (FindText_calls _ _ _ _ _ _ _ _ _ _ _ (Kd.C_below HR.out (below_alloc HB.below _))).mono ?_; rintro e w2 ⟨rfl, hb2⟩; have k7 := ((HB.alloc _).step hb2).at_; have x7 := ((Bx.refl wr #[.string x.f0, .int .i64 x.f1, .int .i64 x.f2, .slice A3 x.f3.length c3] 64).step hb2).at_))
          go_ret2
          exact ⟨ret_two HE.out, (((HB.alloc _).step hb2).below)⟩
        by_cases h3 : (n : Int) < x.f2
        · replace HE := Aside0.mk (HE.out.trans (by rw [if_pos (Or.inr (Or.inr h3))]))
          go_wp2_with (first | (go_at_call 72; refine (ValidName_calls _ _ hs0).mono ?_; rintro e w1 ⟨rfl, rfl⟩) | (go_at_call 23; refine (FindText_calls _ _ _ _ _ _ _ _ _ _ _ (Kd.C_below HR.out (below_alloc HB.below _))).mono ?_; rintro e w2 ⟨rfl, hb2⟩; have k7 := ((HB.alloc _).step hb2).at_; have x7 := ((Bx.refl wr #[.string x.f0, .int .i64 x.f1, .int .i64 x.f2, .slice A3 x.f3.length c3] 64).step hb2).at_))
          go_ret2
          exact ⟨ret_two HE.out, (((HB.alloc _).step hb2).below)⟩
        replace HE := Aside0.mk (HE.out.trans (by rw [if_neg (by rintro (h | h | h); exact h (by simpa using h1); exact h2 h; exact h3 h)]))
        cases h4 : (k : Int) == ((l.length : Int) - 1)
        · have h4' : ¬ k + 1 = l.length := by have := beq_eq_false_iff_ne.1 h4; omega
          replace HE := Aside0.mk (HE.out.trans (by rw [if_neg (fun h => h4' h.1)]))
          clear h4'
          cases h6 : pairsErr x.f3 != 0
          · replace HE := Aside0.mk (HE.out.trans (by rw [if_neg (by rw [h6]; decide)]))
            go_wp2_with (first | (go_at_call 72; refine (ValidName_calls _ _ hs0).mono ?_; rintro e w1 ⟨rfl, rfl⟩) | (go_at_call 23; refine (FindText_calls _ _ _ _ _ _ _ _ _ _ _ (Kd.C_below HR.out (below_alloc HB.below _))).mono ?_; rintro e w2 ⟨rfl, hb2⟩; have k7 := ((HB.alloc _).step hb2).at_; have x7 := ((Bx.refl wr #[.string x.f0, .int .i64 x.f1, .int .i64 x.f2, .slice A3 x.f3.length c3] 64).step hb2).at_) | (go_at_call 74; refine (errorOfPairs_calls _ _ _ _ (Kd.C_below HR3.out (((HB.alloc _).step hb2).below)) hs3).mono ?_; rintro e w3 ⟨rfl, hb3⟩; have y7 := (((Bx.refl wr #[.string x.f0, .int .i64 x.f1, .int .i64 x.f2, .slice A3 x.f3.length c3] 64).step hb2).step hb3).at_))
            go_roundw
            case rel => exact ⟨k + 1, x.f2, by omega, rfl, by go_num, HE, ((HB.alloc _).step hb2).step hb3⟩
            case measure => simp [intOf]; omega
          · replace HE := Aside0.mk (HE.out.trans (by rw [if_pos h6]))
            go_wp2_with (first | (go_at_call 72; refine (ValidName_calls _ _ hs0).mono ?_; rintro e w1 ⟨rfl, rfl⟩) | (go_at_call 23; refine (FindText_calls _ _ _ _ _ _ _ _ _ _ _ (Kd.C_below HR.out (below_alloc HB.below _))).mono ?_; rintro e w2 ⟨rfl, hb2⟩; have k7 := ((HB.alloc _).step hb2).at_; have x7 := ((Bx.refl wr #[.string x.f0, .int .i64 x.f1, .int .i64 x.f2, .slice A3 x.f3.length c3] 64).step hb2).at_) | (go_at_call 74; refine (errorOfPairs_calls _ _ _ _ (Kd.C_below HR3.out (((HB.alloc _).step hb2).below)) hs3).mono ?_; rintro e w3 ⟨rfl, hb3⟩; have y7 := (((Bx.refl wr #[.string x.f0, .int .i64 x.f1, .int .i64 x.f2, .slice A3 x.f3.length c3] 64).step hb2).step hb3).at_))
            go_ret2
            exact ⟨ret_two HE.out, (((HB.alloc _).step hb2).step hb3).below⟩
        · have h4' : k + 1 = l.length := by have := beq_iff_eq.1 h4; omega
          cases h5 : x.f2 != (n : Int)
          · replace HE := Aside0.mk (HE.out.trans (by rw [if_neg (fun h => h.2 (by simpa using h5))]))
            clear h4'
            cases h6 : pairsErr x.f3 != 0
            · replace HE := Aside0.mk (HE.out.trans (by rw [if_neg (by rw [h6]; decide)]))
              go_wp2_with (first | (go_at_call 72; refine (ValidName_calls _ _ hs0).mono ?_; rintro e w1 ⟨rfl, rfl⟩) | (go_at_call 23; refine (FindText_calls _ _ _ _ _ _ _ _ _ _ _ (Kd.C_below HR.out (below_alloc HB.below _))).mono ?_; rintro e w2 ⟨rfl, hb2⟩; have k7 := ((HB.alloc _).step hb2).at_; have x7 := ((Bx.refl wr #[.string x.f0, .int .i64 x.f1, .int .i64 x.f2, .slice A3 x.f3.length c3] 64).step hb2).at_) | (go_at_call 74; refine (errorOfPairs_calls _ _ _ _ (Kd.C_below HR3.out (((HB.alloc _).step hb2).below)) hs3).mono ?_; rintro e w3 ⟨rfl, hb3⟩; have y7 := (((Bx.refl wr #[.string x.f0, .int .i64 x.f1, .int .i64 x.f2, .slice A3 x.f3.length c3] 64).step hb2).step hb3).at_))
              go_roundw
              case rel => exact ⟨k + 1, x.f2, by omega, rfl, by go_num, HE, ((HB.alloc _).step hb2).step hb3⟩
              case measure => simp [intOf]; omega
            · replace HE := Aside0.mk (HE.out.trans (by rw [if_pos h6]))
              go_wp2_with (first | (go_at_call 72; refine (ValidName_calls _ _ hs0).mono ?_; rintro e w1 ⟨rfl, rfl⟩) | (go_at_call 23; refine (FindText_calls _ _ _ _ _ _ _ _ _ _ _ (Kd.C_below HR.out (below_alloc HB.below _))).mono ?_; rintro e w2 ⟨rfl, hb2⟩; have k7 := ((HB.alloc _).step hb2).at_; have x7 := ((Bx.refl wr #[.string x.f0, .int .i64 x.f1, .int .i64 x.f2, .slice A3 x.f3.length c3] 64).step hb2).at_) | (go_at_call 74; refine (errorOfPairs_calls _ _ _ _ (Kd.C_below HR3.out (((HB.alloc _).step hb2).below)) hs3).mono ?_; rintro e w3 ⟨rfl, hb3⟩; have y7 := (((Bx.refl wr #[.string x.f0, .int .i64 x.f1, .int .i64 x.f2, .slice A3 x.f3.length c3] 64).step hb2).step hb3).at_))
              go_ret2
              exact ⟨ret_two HE.out, (((HB.alloc _).step hb2).step hb3).below⟩
          · replace HE := Aside0.mk (HE.out.trans (by rw [if_pos ⟨h4', by simpa using h5⟩]))
            clear h4'
            go_wp2_with (first | (go_at_call 72; refine (ValidName_calls _ _ hs0).mono ?_; rintro e w1 ⟨rfl, rfl⟩) | (go_at_call 23; refine (FindText_calls _ _ _ _ _ _ _ _ _ _ _ (Kd.C_below HR.out (below_alloc HB.below _))).mono ?_; rintro e w2 ⟨rfl, hb2⟩; have k7 := ((HB.alloc _).step hb2).at_; have x7 := ((Bx.refl wr #[.string x.f0, .int .i64 x.f1, .int .i64 x.f2, .slice A3 x.f3.length c3] 64).step hb2).at_))
            go_ret2
            exact ⟨ret_two HE.out, (((HB.alloc _).step hb2).below)⟩
      · go_wp2
        go_ret2
        exact ⟨ret_two (by rw [HN.out, List.drop_eq_nil_of_le (by omega)]; rfl), HB.below⟩
  · have HE : Aside0 (textsErr l n = (0, 15)) := ⟨by rw [textsErr, if_neg h8, if_pos h9]⟩
    go_enter Try.func35, Try.ntmps35
    go_wp2
    go_ret2
    exact ⟨ret_two HE.out, below_alloc (Below.refl _ _) _⟩
end Go.Proofs.Ytkdgholmfnidkaa
