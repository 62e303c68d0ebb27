/- Values, features, pairs: what each call returns. -/
import Derived.Test.YtkdgholmfnidkaaB
import Derived.Test.YtkdgholmfnidkaaU
import Derived.IntWalk
namespace Go.Proofs.Ytkdgholmfnidkaa
open Go.RowKit Go.Proofs.YtkdgholmfnidkaaW.PrintWords Go.Proofs.YtkdgholmfnidkaaW.PrintLast Go.Proofs.YtkdgholmfnidkaaW.PrintMore

def ctlU (u : Un) : Bool := decide (u.1 ≤ 31) || u.1 == 127
def validValue (s : ByteArray) : Int := if 120 < s.size then 2 else if utfOK s = false then 7 else if (unitsOf s).any ctlU = true then 14 else 0
set_option maxHeartbeats 1000000 in
set_option maxRecDepth 100000 in
theorem ValidValue_calls (s : ByteArray) (w : World) (hs : s.size ≤ 140737488351232) : Calls Try.prog 88 #[.string s] w fun e w' => e = .returned (.int .i64 (validValue s)) ∧ Below w.heap.size w w' := by
  have hu9 := Try.underlying9
  by_cases hl : 120 < s.size
  · go_enter Try.func88, Try.ntmps88
    go_wp2
    go_ret
    exact ⟨ret_int (by rw [validValue, if_pos hl]), Below.refl _ _⟩
  have hl' : s.size ≤ 120 := by omega
  cases hv : utfOK s
  · go_enter Try.func88, Try.ntmps88
    go_wp2_with (go_at_call 94; refine (Valid_calls _ _ hs).mono ?_; rintro e w1 ⟨rfl, hb⟩)
    go_ret
    exact ⟨ret_int (by rw [validValue, if_neg hl, if_pos hv]), hb⟩
  · have HV : Aside0 (validValue s = if (unitsGo s s.size 0).any ctlU = true then 14 else 0) := ⟨by rw [validValue, if_neg hl, if_neg (by rw [hv]; decide)]; rfl⟩
    go_enter Try.func88, Try.ntmps88
    go_wp2_with (go_at_call 94; refine (Valid_calls _ _ hs).mono ?_; rintro e w1 ⟨rfl, hb⟩)
    have HB := Aside0.mk hb
    clear hb
    go_loopw [4] (fun _ wr => ∃ pos : Nat, wr = w1.iter s pos ∧ Aside0 (validValue s = if (unitsGo s s.size pos).any ctlU = true then 14 else 0)) (fun _ wr => s.size - wr.iterPos w1.heap.size)
    case atStart => exact ⟨0, rfl, HV⟩
    case round =>
      clear HV
      obtain ⟨pos, rfl, HN⟩ := hrel
      by_cases hlt : pos < s.size
      · have hnx := fun ty => run_next_any (P := Try.prog) w1 s pos ty hlt
        have HU := Aside0.mk (unitsGo_step s pos hlt)
        have HD := Aside0.mk (decode_one s pos hlt)
        by_cases h1 : ((Utf8.decode s pos).1 : Int) ≤ 31
        · go_wp2
          go_ret
          exact ⟨ret_int (by rw [HN.out, HU.out, if_pos (by simp [ctlU]; omega)]), HB.out.trans ((Below.refl _ w1).alloc HB.out.size _)⟩
        · cases h2 : ((Utf8.decode s pos).1 : Int) == 127
          · go_wp2
            go_roundw
            case rel =>
              refine ⟨_, rfl, ⟨?_⟩⟩
              rw [HN.out, HU.out, List.any_cons]
              have : ctlU (((Utf8.decode s pos).1 : Int), (pos : Int), ((min (pos + (Utf8.decode s pos).2) s.size : Nat) : Int) - pos) = false := by simp only [ctlU, h2]; simp; omega
              rw [this]; rfl
            case measure =>
              have := HD.out
              simp only [World.iterPos_iter]
              omega
          · go_wp2
            go_ret
            exact ⟨ret_int (by rw [HN.out, HU.out, if_pos (by simp only [List.any_cons, ctlU, h2]; simp)]), HB.out.trans ((Below.refl _ w1).alloc HB.out.size _)⟩
      · have hnx := fun ty => run_next_end (P := Try.prog) w1 s pos ty hlt
        go_wp2
        go_ret
        exact ⟨ret_int (by rw [HN.out, unitsGo_end s _ pos hlt]; rfl), HB.out.trans ((Below.refl _ w1).alloc HB.out.size _)⟩
theorem info9 : (Try.prog.info? 9).map (fun i => (i.zero, i.size, i.bytes)) = some (some (.string ⟨#[]⟩), 1, 16) := by kernel_rfl
/-- The features between bars, from place i on; none: an empty one. -/
def cutGo (s : ByteArray) : Nat → Nat → Nat → List ByteArray → Option (List ByteArray)
  | 0, _, _, acc => some acc
  | f + 1, b, i, acc => if h : i < s.size then (if (s[i].toNat : Int) = 124 then (if i = b then none else cutGo s f (i + 1) (i + 1) (acc ++ [s.extract b i])) else cutGo s f b (i + 1) acc) else some acc
def ascB : List ByteArray → Bool
  | a :: b :: l => Op.bytesLess a.toList b.toList && ascB (b :: l)
  | _ => true
def barred (s : ByteArray) : Bool := if h : 0 < s.size then decide ((s[0].toNat : Int) = 124) && decide ((s[s.size - 1].toNat : Int) = 124) else false
def cutErr : Option (List ByteArray) → Int
  | none => 3
  | some l => if ascB l = true then 0 else 6
def featErr (s : ByteArray) : Int := if (validValue s != 0) = true then validValue s else if barred s = false then 3 else cutErr (cutGo s s.size 1 1 [])
theorem cutGo_end (s : ByteArray) (f b i : Nat) (acc : List ByteArray) (h : ¬ i < s.size) : cutGo s f b i acc = some acc := by
  cases f with
  | zero => rfl
  | succ f => rw [cutGo, dif_neg h]
theorem ascB_drop (l : List ByteArray) (k : Nat) (hk : k + 1 < l.length) : ascB (l.drop k) = (Op.bytesLess (rdOf ByteArray.empty l k).toList (rdOf ByteArray.empty l ((k : Int) + 1)).toList && ascB (l.drop (k + 1))) := by
  have e1 : l.drop k = l[k] :: l.drop (k + 1) := List.drop_eq_getElem_cons (by omega)
  have e2 : l.drop (k + 1) = l[k + 1] :: l.drop (k + 1 + 1) := List.drop_eq_getElem_cons (by omega)
  rw [e1, e2]
  simp only [ascB, rdOf, List.getD_eq_getElem?_getD]
  rw [show ((k : Int)).toNat = k from by omega, show ((k : Int) + 1).toNat = k + 1 from by omega, List.getElem?_eq_getElem (show k < l.length by omega), List.getElem?_eq_getElem (show k + 1 < l.length by omega)]
  rfl
theorem ascB_short (l : List ByteArray) (k : Nat) (hk : ¬ k + 1 < l.length) : ascB (l.drop k) = true := by
  have : (l.drop k).length ≤ 1 := by rw [List.length_drop]; omega
  match hd : l.drop k, this with
  | [], _ => rfl
  | [a], _ => rfl
  | a :: b :: t, h => simp at h
theorem validValue_long {s : ByteArray} (h : 120 < s.size) : validValue s = 2 := by rw [validValue, if_pos h]
theorem barred_one {s : ByteArray} (h : s.toList = [124]) : barred s = true ∧ s.size = 1 := by
  have h1 : s.data.toList = [124] := by rw [← h]; simp [ByteArray.toList_eq]
  have h2 : s.size = 1 := by have := congrArg List.length h1; rw [data_length] at this; simpa using this
  refine ⟨?_, h2⟩
  have hd := drop_bytes s 0 (by omega)
  have hb : bytesOf s = [124] := by simp [bytesOf, h1]
  rw [hb] at hd
  simp only [List.drop_zero, List.cons.injEq] at hd
  unfold barred
  rw [dif_pos (by omega)]
  have e : s[s.size - 1]'(by omega) = s[0]'(by omega) := by congr 1; omega
  rw [e]
  simp [← hd.1]
theorem add_succ (ad : Addr) (j : Nat) : ad.add (j + 1) = ⟨ad.block, ad.off + (j + 1), none⟩ := by unfold Addr.add; simp
theorem ret_err (v : Value) {a b : Int} (h : a = b) : ∃ v', Ending.returned (.tuple #[v, .int .i64 a]) = .returned (.tuple #[v', .int .i64 b]) := ⟨v, by rw [h]⟩
theorem barred_lt {s : ByteArray} (h : s.size < 2) (h1 : (s.toList == [124]) = false) : barred s = false := by
  unfold barred
  by_cases h0 : 0 < s.size
  · rw [dif_pos h0]
    have hd := drop_bytes s 0 h0
    have hl := data_length s
    rcases e : s.data.toList with _ | ⟨c, l⟩
    · rw [e] at hl; simp at hl; omega
    · rw [e] at hl
      have : l = [] := List.eq_nil_of_length_eq_zero (by simp at hl; omega)
      subst this
      have hc : (s[0].toNat : Int) ≠ 124 := by
        intro hc
        rw [ByteArray.toList_eq, e] at h1
        simp only [List.drop_zero, bytesOf, e, List.map_cons, List.cons.injEq] at hd
        have : c = 124 := by
          apply UInt8.toNat_inj.1
          have := hd.1; simp at this ⊢; omega
        simp [this] at h1
      simp [hc]
  · rw [dif_neg h0]
set_option maxHeartbeats 4000000 in
set_option maxRecDepth 100000 in
theorem featParse_calls (s : ByteArray) (w : World) (hs : s.size ≤ 140737488351232) : Calls Try.prog 89 #[.string s] w fun e w' => (∃ v, e = .returned (.tuple #[v, .int .i64 (featErr s)])) ∧ Below w.heap.size w w' := by
  cases hv : validValue s != 0
  · have hl : s.size ≤ 120 := by
      rcases Nat.lt_or_ge 120 s.size with h | h
      · rw [validValue_long h] at hv; simp at hv
      · exact h
    cases h1 : s.toList == [124]
    · by_cases h2 : s.size < 2
      · have HF : Aside0 (featErr s = 3) := ⟨by rw [featErr, hv, if_neg (by decide), barred_lt h2 h1, if_pos rfl]⟩
        go_enter Try.func89, Try.ntmps89
        go_wp2_with (go_at_call 88; refine (ValidValue_calls _ _ hs).mono ?_; rintro e w1 ⟨rfl, hb⟩)
        go_ret2
        exact ⟨ret_err _ HF.out.symm, hb⟩
      have h0 : 0 < s.size := by omega
      cases h3 : (s[0].toNat : Int) != 124
      · cases h4 : (s[s.size - 1].toNat : Int) != 124
        · have hb1 : barred s = true := by
            have e3 : (s[0].toNat : Int) = 124 := by simpa using h3
            have e4 : (s[s.size - 1].toNat : Int) = 124 := by simpa using h4
            rw [barred, dif_pos h0, e3, e4]; rfl
          have HF : Aside0 (featErr s = cutErr (cutGo s s.size 1 1 [])) := ⟨by rw [featErr, hv, if_neg (by decide), hb1, if_neg (by decide)]⟩
          clear hb1
          have gi : ((s.size : Int) - 1).toNat = s.size - 1 := by omega
          go_enter Try.func89, Try.ntmps89
          go_wp2_with (go_at_call 88; refine (ValidValue_calls _ _ hs).mono ?_; rintro e w1 ⟨rfl, hb⟩)
          have HB0 := Aside0.mk hb
          have HG := Aside0.mk gi
          have H0 := Aside0.mk h0
          clear hb
          go_loopw [5, 6, 7] (fun v b i wr => ∃ (bn k f : Nat) (acc : List ByteArray), b = .int .i64 bn ∧ i = .int .i64 k ∧ 1 ≤ bn ∧ bn ≤ k ∧ k ≤ s.size ∧ acc.length ≤ k ∧ Aside0 (s.size ≤ f + k) ∧ Aside0 (featErr s = cutErr (cutGo s f bn k acc)) ∧
              Aside0 (wr.ownsRow w.heap.size 9 1 v acc.length (encs Value.string acc)) ∧ Aside0 (Below w.heap.size w wr)) (fun _ _ i _ => s.size - (intOf i).toNat)
          case atStart => exact ⟨1, 1, s.size, [], rfl, rfl, by omega, by omega, by omega, by simp, ⟨by omega⟩, HF, ⟨own_nil _ _ _ _⟩, HB0⟩
          case round =>
            clear HF HB0
            obtain ⟨bn, k, f, acc, rfl, rfl, hb1, hb2, hk, hal, Hf, HN, HO, HB⟩ := hrel
            by_cases hlt : k < s.size
            · obtain ⟨f, rfl⟩ : ∃ m, f = m + 1 := ⟨f - 1, by have := Hf.out; omega⟩
              cases hc : (s[k].toNat : Int) != 124
              · have hc' : (s[k].toNat : Int) = 124 := by simpa using hc
                by_cases hkb : k = bn
                · have HE := Aside0.mk (HN.out.trans (by rw [cutGo, dif_pos hlt, if_pos hc', if_pos hkb]; rfl : _ = (3 : Int)))
                  subst hkb
                  clear HN hc'
                  go_wp2
                  go_ret2
                  exact ⟨ret_err _ HE.out.symm, HB.out⟩
                · have HE := Aside0.mk (HN.out.trans (by rw [cutGo, dif_pos hlt, if_pos hc', if_neg hkb] : _ = cutErr (cutGo s f (k + 1) (k + 1) (acc ++ [s.extract bn k]))))
                  have hkb' : ((k : Int) == (bn : Int)) = false := by simp; omega
                  have HI := Aside0.mk info9
                  clear HN hc' hkb
                  go_wp2_with (at_builtin; refine print_append_of Value.string w.heap.size rfl (.tmp 45) (.tmp 50) 28 9 (.string ⟨#[]⟩) 16 rfl Try.underlying28 HI.out rfl (by decide) u5 acc (s.extract bn k) rfl rfl rfl HO.out HB.out HB.out.size (by omega) ?_; intro v1 w3 hown hB1 _ _)
                  go_roundw
                  case rel => exact ⟨k + 1, k + 1, f, acc ++ [s.extract bn k], by go_num, by go_num, by omega, by omega, by omega, by simp; omega, ⟨by have := Hf.out; omega⟩, HE, ⟨hown⟩, ⟨hB1⟩⟩
                  case measure => simp [intOf]; omega
              · have hc' : (s[k].toNat : Int) ≠ 124 := by simpa using hc
                have HE := Aside0.mk (HN.out.trans (by rw [cutGo, dif_pos hlt, if_neg hc'] : _ = cutErr (cutGo s f bn (k + 1) acc)))
                clear HN hc'
                go_wp2
                go_roundw
                case rel => exact ⟨bn, k + 1, f, acc, rfl, by go_num, by omega, by omega, by omega, by omega, ⟨by have := Hf.out; omega⟩, HE, HO, HB⟩
                case measure => simp [intOf]; omega
            · have HE := Aside0.mk (HN.out.trans (by rw [cutGo_end _ _ _ _ _ hlt]; rfl : _ = if ascB acc = true then (0 : Int) else 6))
              clear HN Hf
              obtain ⟨A, c, rfl, HR0⟩ := own_reads_of (d := ByteArray.empty) HO.out
              go_wp2
              have HR := Aside0.mk HR0
              have HLN := Aside0.mk HR0.1
              have hln := HR0.2.1
              clear HR0 HO
              go_loopw [8] (fun i wr2 => ∃ j : Nat, i = .int .i64 ((j : Int) + 1) ∧ j ≤ acc.length ∧ Aside0 (featErr s = if ascB (acc.drop j) = true then 0 else 6) ∧ (∀ a, wr2.cell? a = wr.cell? a) ∧ Aside0 (Below w.heap.size w wr2)) (fun i _ => acc.length + 1 - (intOf i).toNat)
              case atStart => exact ⟨0, by simp, Nat.zero_le _, HE, fun _ => rfl, HB⟩
              case round =>
                clear HE
                obtain ⟨j, rfl, hjl, HN, hcell, HB2⟩ := hrel
                by_cases hj : j + 1 < acc.length
                · obtain ⟨ad, hA, q0⟩ := HR.out.at_ (j : Int) (by omega) (by omega)
                  obtain ⟨ad', hA', q1⟩ := HR.out.at_ ((j : Int) + 1) (by omega) (by omega)
                  subst hA
                  obtain rfl := Option.some.inj hA'
                  rw [Int.toNat_natCast] at q0
                  have q0' := (hcell _).trans q0
                  have q1' := (hcell _).trans q1
                  have HA := Aside0.mk (ascB_drop acc j hj)
                  have HC := Aside0.mk hcell
                  obtain ⟨x, hx⟩ : ∃ x, rdOf ByteArray.empty acc (j : Int) = x := ⟨_, rfl⟩
                  obtain ⟨y, hy⟩ : ∃ y, rdOf ByteArray.empty acc ((j : Int) + 1) = y := ⟨_, rfl⟩
                  rw [hx] at q0'
                  rw [hy] at q1'
                  replace HA := Aside0.mk (HA.out.trans (by rw [hx, hy]))
                  clear q0 q1 hcell hx hy
                  have g1 : ((j : Nat) : Int) + 1 < ((acc.length : Nat) : Int) := by omega
                  have g2 : ((j : Nat) : Int) < ((acc.length : Nat) : Int) := by omega
                  have g3 : (0 : Int) ≤ (j : Int) := by omega
                  have g4 : (0 : Int) ≤ (j : Int) + 1 := by omega
                  have q2' := q1'
                  rw [show ((j : Int) + 1).toNat = j + 1 from by omega, add_succ] at q2'
                  have g6 : IntKind.i64.wrap (j : Int) = (j : Int) := IntWalk.i64_in _ (by omega)
                  have g7 : IntKind.i64.wrap ((j : Int) + 1 - 1) = (j : Int) := by rw [Int.add_sub_cancel]; exact g6
                  cases hless : Op.bytesLess x.toList y.toList
                  · go_wp2
                    go_quiet (fail)
                    go_wp2
                    go_ret2
                    exact ⟨ret_err _ (by rw [HN.out, HA.out, hless]; rfl), (bel_drewN HB2 _).out⟩
                  · go_wp2
                    go_quiet (fail)
                    go_wp2
                    go_roundw
                    case rel => exact ⟨j + 1, by go_num, by omega, ⟨by rw [HN.out, HA.out, hless]; rfl⟩, fun a => by simpa using HC.out a, bel_drewN HB2 _⟩
                    case measure => simp [intOf]; omega
                · have g1 : ¬ ((j : Nat) : Int) + 1 < ((acc.length : Nat) : Int) := by omega
                  have HS := Aside0.mk (ascB_short acc j hj)
                  clear hcell
                  go_wp2
                  go_ret2
                  exact ⟨ret_err _ (by rw [HN.out, HS.out]; rfl), HB2.out⟩
        · have HF : Aside0 (featErr s = 3) := ⟨by
            have e4 : (s[s.size - 1].toNat : Int) ≠ 124 := by simpa using h4
            rw [featErr, hv, if_neg (by decide), if_pos]
            rw [barred, dif_pos h0, decide_eq_false e4, Bool.and_false]⟩
          have gi : ((s.size : Int) - 1).toNat = s.size - 1 := by omega
          go_enter Try.func89, Try.ntmps89
          go_wp2_with (go_at_call 88; refine (ValidValue_calls _ _ hs).mono ?_; rintro e w1 ⟨rfl, hb⟩)
          go_ret2
          exact ⟨ret_err _ HF.out.symm, hb⟩
      · have HF : Aside0 (featErr s = 3) := ⟨by
          have e3 : (s[0].toNat : Int) ≠ 124 := by simpa using h3
          rw [featErr, hv, if_neg (by decide), if_pos]
          rw [barred, dif_pos h0, decide_eq_false e3, Bool.false_and]⟩
        go_enter Try.func89, Try.ntmps89
        go_wp2_with (go_at_call 88; refine (ValidValue_calls _ _ hs).mono ?_; rintro e w1 ⟨rfl, hb⟩)
        go_ret2
        exact ⟨ret_err _ HF.out.symm, hb⟩
    · have h1' := barred_one (by simpa using h1)
      have HF : Aside0 (featErr s = 0) := ⟨by rw [featErr, hv, if_neg (by decide), h1'.1, if_neg (by decide), cutGo_end _ _ _ _ _ (by omega)]; rfl⟩
      clear h1'
      go_enter Try.func89, Try.ntmps89
      go_wp2_with (go_at_call 88; refine (ValidValue_calls _ _ hs).mono ?_; rintro e w1 ⟨rfl, hb⟩)
      go_ret2
      exact ⟨ret_err _ HF.out.symm, hb⟩
  · have HF : Aside0 (featErr s = validValue s) := ⟨by rw [featErr, if_pos hv]⟩
    go_enter Try.func89, Try.ntmps89
    go_wp2_with (go_at_call 88; refine (ValidValue_calls _ _ hs).mono ?_; rintro e w1 ⟨rfl, hb⟩)
    go_ret2
    exact ⟨ret_err _ HF.out.symm, hb⟩
def valErr (set : Bool) (v : ByteArray) : Int := if set = true then featErr v else validValue v
set_option maxHeartbeats 1000000 in
set_option maxRecDepth 100000 in
theorem errorOfValue_calls (u : Value) (b : Bool) (v : ByteArray) (w : World) (hs : v.size ≤ 140737488351232) :
    Calls Try.prog 73 #[.agg #[u, .bool b], .string v] w fun e w' => e = .returned (.int .i64 (valErr b v)) ∧ Below w.heap.size w w' := by
  have hu := Try.underlying62
  cases b
  · go_enter Try.func73, Try.ntmps73
    go_wp2_with (go_at_call 88; refine (ValidValue_calls _ _ hs).mono ?_; rintro e w1 ⟨rfl, hb⟩)
    go_ret
    exact ⟨rfl, below_step (below_alloc (Below.refl _ _) _) hb⟩
  · go_enter Try.func73, Try.ntmps73
    go_wp2_with (go_at_call 89; refine (featParse_calls _ _ hs).mono ?_; rintro e w1 ⟨⟨v1, rfl⟩, hb⟩)
    go_ret
    exact ⟨rfl, below_step (below_alloc (Below.refl _ _) _) hb⟩
def okP (p : S70) : Prop := p.f0.size ≤ 140737488351232 ∧ p.f1.size ≤ 140737488351232
def notAfter : Option ByteArray → ByteArray → Bool
  | some q, n => !Op.bytesLess q.toList n.toList
  | none, _ => false
def pairsGo (prev : Option ByteArray) : List S70 → Int
  | [] => 0
  | p :: l => if validName p.f0 = false then 4 else if notAfter prev p.f0 = true then 6 else if (validValue p.f1 != 0) = true then validValue p.f1 else pairsGo (some p.f0) l
termination_by structural l => l
def pairsErr (l : List S70) : Int := if 8 < l.length then 2 else pairsGo none l
def prevOf (l : List S70) (k : Nat) : Option ByteArray := if k = 0 then none else (l[k - 1]?).map (·.f0)
set_option maxHeartbeats 2000000 in
set_option maxRecDepth 100000 in
theorem errorOfPairs_calls (A : Option Addr) (c : Nat) (l : List S70) (w : World) (hr : Kd.C k70 w A l.length l) (hok : ∀ p ∈ l, okP p) :
    Calls Try.prog 74 #[.slice A l.length c] w fun e w' => e = .returned (.int .i64 (pairsErr l)) ∧ Below w.heap.size w w' := by
  have hu := Try.underlying70
  have hm := Kd.C_max hr
  have HR := Aside0.mk hr
  have HK := Aside0.mk hok
  clear hr hok
  by_cases h8 : 8 < l.length
  · go_enter Try.func74, Try.ntmps74
    go_wp2
    go_ret
    exact ⟨ret_int (by rw [pairsErr, if_pos h8]), Below.refl _ _⟩
  have H0 : Aside0 (pairsErr l = pairsGo (prevOf l 0) (l.drop 0)) := ⟨by rw [pairsErr, if_neg h8]; rfl⟩
  go_enter Try.func74, Try.ntmps74
  go_wp2
  go_loopw [11] (fun i wr => ∃ k : Nat, k ≤ l.length ∧ i = .int .i64 k ∧ Aside0 (pairsErr l = pairsGo (prevOf l k) (l.drop k)) ∧ Aside0 (Below w.heap.size w wr)) (fun i _ => l.length - (intOf i).toNat)
  case atStart => exact ⟨0, Nat.zero_le _, rfl, H0, bel_refl _⟩
  case round =>
    clear H0
    obtain ⟨k, hk, rfl, HN, HB⟩ := hrel
    by_cases hlt : k < l.length
    · obtain ⟨ad, x, rfl, hd, hx, h0, h1⟩ := el70 HR HB k hlt
      have hox := HK.out x (List.mem_of_getElem? hx.out)
      have hs0 : x.f0.size ≤ 9223372036854775807 := by have := hox.1; omega
      have hs1 := hox.2
      clear hox
      have HE := Aside0.mk (HN.out.trans (by rw [hd.out]))
      clear HN
      cases hv : validName x.f0
      · go_wp2_with (go_at_call 72; refine (ValidName_calls _ _ hs0).mono ?_; rintro e w1 ⟨rfl, rfl⟩)
        go_ret
        exact ⟨ret_int (by rw [HE.out, pairsGo, if_pos hv]), below_alloc HB.out _⟩
      · by_cases hk0 : k = 0
        · have hg : decide ((0 : Int) < (k : Int)) = false := by simp; omega
          have hgn : decide (0 < k) = false := by simp; omega
          replace HE := Aside0.mk (HE.out.trans (by rw [pairsGo, if_neg (by rw [hv]; decide), if_neg (by rw [hk0]; simp [prevOf, notAfter])]))
          clear hk0
          cases hvv : validValue x.f1 != 0
          · replace HE := Aside0.mk (HE.out.trans (by rw [if_neg (by rw [hvv]; decide)] : _ = pairsGo (some x.f0) (l.drop (k + 1))))
            go_wp2_with (go_at_call 72; refine (ValidName_calls _ _ hs0).mono ?_; rintro e w1 ⟨rfl, rfl⟩)
            go_quiet (fail)
            go_wp2_with (go_at_call 88; refine (ValidValue_calls _ _ hs1).mono ?_; rintro e w2 ⟨rfl, hb⟩)
            go_roundw
            case rel => exact ⟨k + 1, by omega, by go_num, ⟨HE.out.trans (by rw [prevOf, if_neg (by omega), Nat.add_sub_cancel, hx.out]; rfl)⟩, bel_step (bel_drewN (bel_alloc HB _) _) hb⟩
            case measure => simp [intOf]; omega
          · replace HE := Aside0.mk (HE.out.trans (by rw [if_pos hvv] : _ = validValue x.f1))
            go_wp2_with (go_at_call 72; refine (ValidName_calls _ _ hs0).mono ?_; rintro e w1 ⟨rfl, rfl⟩)
            go_quiet (fail)
            go_wp2_with (go_at_call 88; refine (ValidValue_calls _ _ hs1).mono ?_; rintro e w2 ⟨rfl, hb⟩)
            go_ret
            exact ⟨ret_int HE.out.symm, below_step (bel_drewN (bel_alloc HB _) _).out hb⟩
        · obtain ⟨ad', y, hA, -, hy, q0, q1⟩ := el70 HR HB (k - 1) (by omega)
          obtain rfl := Option.some.inj hA
          have hg : decide ((0 : Int) < (k : Int)) = true := by simp; omega
          have hgn : decide (0 < k) = true := by simp; omega
          have g2 : ((k : Int) - 1).toNat = k - 1 := by omega
          have g3 : IntKind.i64.wrap ((k : Int) - 1) = (k : Int) - 1 := IntWalk.i64_in _ (by omega)
          have g4 : (0 : Int) ≤ (k : Int) - 1 := by omega
          have g6 : (1 : Int) ≤ (k : Int) := by omega
          replace q0 := pw_cell_below (below_alloc (Below.refl _ _) (.cells #[.string x.f0, .string x.f1] 70)) q0
          have g5 : ((k : Int) - 1) < (l.length : Int) := by omega
          replace HE := Aside0.mk (HE.out.trans (by rw [pairsGo, if_neg (by rw [hv]; decide), show prevOf l k = some y.f0 from by rw [prevOf, if_neg hk0, hy.out]; rfl]; rfl : _ = if (!Op.bytesLess y.f0.toList x.f0.toList) = true then (6 : Int) else if (validValue x.f1 != 0) = true then validValue x.f1 else pairsGo (some x.f0) (l.drop (k + 1))))
          cases hless : Op.bytesLess y.f0.toList x.f0.toList
          · go_wp2_with (first | (go_at_call 72; refine (ValidName_calls _ _ hs0).mono ?_; rintro e w1 ⟨rfl, rfl⟩))
            go_quiet (fail)
            go_wp2
            go_ret
            exact ⟨ret_int (HE.out.trans (by rw [hless]; rfl)).symm, (bel_drewN (bel_alloc HB _) _).out⟩
          · replace HE := Aside0.mk (HE.out.trans (by rw [hless, if_neg (by decide)]))
            cases hvv : validValue x.f1 != 0
            · replace HE := Aside0.mk (HE.out.trans (by rw [if_neg (by rw [hvv]; decide)] : _ = pairsGo (some x.f0) (l.drop (k + 1))))
              go_wp2_with (go_at_call 72; refine (ValidName_calls _ _ hs0).mono ?_; rintro e w1 ⟨rfl, rfl⟩)
              go_quiet (fail)
              go_wp2_with (go_at_call 88; refine (ValidValue_calls _ _ hs1).mono ?_; rintro e w2 ⟨rfl, hb⟩)
              go_roundw
              case rel => exact ⟨k + 1, by omega, by go_num, ⟨HE.out.trans (by rw [prevOf, if_neg (by omega), Nat.add_sub_cancel, hx.out]; rfl)⟩, bel_step (bel_drewN (bel_alloc HB _) _) hb⟩
              case measure => simp [intOf]; omega
            · replace HE := Aside0.mk (HE.out.trans (by rw [if_pos hvv] : _ = validValue x.f1))
              go_wp2_with (go_at_call 72; refine (ValidName_calls _ _ hs0).mono ?_; rintro e w1 ⟨rfl, rfl⟩)
              go_quiet (fail)
              go_wp2_with (go_at_call 88; refine (ValidValue_calls _ _ hs1).mono ?_; rintro e w2 ⟨rfl, hb⟩)
              go_ret
              exact ⟨ret_int HE.out.symm, below_step (bel_drewN (bel_alloc HB _) _).out hb⟩
    · go_wp2
      go_ret
      exact ⟨ret_int (by rw [HN.out, List.drop_eq_nil_of_le (by omega)]; rfl), HB.out⟩
end Go.Proofs.Ytkdgholmfnidkaa
