/- A row of regions of the call's own, its elements as they lie: an element moved on by copy. -/
import Derived.Test.YtkdgholmfnidkaaV
namespace Go.Proofs.Ytkdgholmfnidkaa
open Go.RowKit Go.Proofs.YtkdgholmfnidkaaW.PrintWords Go.Proofs.YtkdgholmfnidkaaW.PrintLast Go.Proofs.YtkdgholmfnidkaaW.PrintMore

/-- A region and where its keys lie. -/
abbrev El := S39 × Option Addr × Nat
def enE (e : El) : List Value := [.string e.1.f0, .int .i64 e.1.f1, .int .i64 e.1.f2, .slice e.2.1 e.1.f3.length e.2.2]
def kE : Kd El where
  sz := 4
  E := []
  K := fun _ x cs => cs = enE x
  M := fun _ _ _ x cs => cs = enE x
  K_len := fun h => by rw [h]; rfl
  K_one := fun h u hu => by
    rw [h] at hu
    simp only [enE, List.mem_cons, List.not_mem_nil, or_false] at hu
    rcases hu with rfl | rfl | rfl | rfl <;> rfl
  K_below := fun _ h => h
  K_of_M := fun h => h
  M_mono := fun _ h => h
  M_bound := fun h => h
  M_move := fun _ h => h
  M_lower := fun _ h => h
def flat (xs : List El) : List Value := xs.flatMap enE
theorem flat_len : ∀ xs : List El, (flat xs).length = xs.length * 4
  | [] => rfl
  | x :: xs => by
    have := flat_len xs
    simp only [flat, List.flatMap_cons, List.length_append, List.length_cons] at this ⊢
    rw [this]
    simp [enE]; omega
theorem flat_app (xs ys : List El) : flat (xs ++ ys) = flat xs ++ flat ys := by simp [flat]
theorem flat_drop : ∀ (xs : List El) (j : Nat), (flat xs).drop (j * 4) = flat (xs.drop j)
  | xs, 0 => by simp
  | [], j + 1 => by simp [flat]
  | x :: xs, j + 1 => by
    have h := flat_drop xs j
    rw [show (j + 1) * 4 = 4 + j * 4 by omega]
    show (enE x ++ flat xs).drop (4 + j * 4) = flat (xs.drop j)
    rw [← List.drop_drop, List.drop_append_of_le_length (by simp [enE])]
    simpa [enE] using h
theorem flat_take (xs : List El) (j : Nat) : (flat xs).take (j * 4) = flat (xs.take j) := by
  rcases Nat.lt_or_ge xs.length j with h | h
  · rw [List.take_of_length_le (by rw [flat_len]; omega), List.take_of_length_le (by omega)]
  · have h1 : flat xs = flat (xs.take j) ++ flat (xs.drop j) := by rw [← flat_app, List.take_append_drop]
    rw [h1, List.take_append_of_le_length (by rw [flat_len, List.length_take]; omega), List.take_of_length_le (by rw [flat_len, List.length_take]; omega)]
theorem reps_flat : ∀ (xs : List El) (W : World) (base : Nat) (ok : Nat → Prop), Reps (kE.M W base ok) 4 xs (flat xs)
  | [], _, _, _ => Reps.none _ _
  | x :: xs, W, base, ok => Reps.front (p := x) (c := enE x) rfl rfl (reps_flat xs W base ok) rfl
theorem reps_flat_eq {W : World} {base : Nat} {ok : Nat → Prop} : ∀ {xs : List El} {cs : List Value}, Reps (kE.M W base ok) 4 xs cs → cs = flat xs
  | [], cs, h => by
    have := h.1
    simp at this
    simpa [flat] using this
  | x :: xs, cs, h => by
    have h0 : cs.take 4 = enE x := by
      have q := h.2 0 x rfl
      simp only [Nat.zero_mul, List.drop_zero] at q
      exact q
    have h1 : Reps (kE.M W base ok) 4 xs (cs.drop 4) := by
      refine ⟨by rw [List.length_drop, h.1]; simp; omega, fun j p hj => ?_⟩
      have := h.2 (j + 1) p (by simpa using hj)
      rw [List.drop_drop, show 4 + j * 4 = (j + 1) * 4 by omega]
      exact this
    rw [← List.take_append_drop 4 cs, h0, reps_flat_eq h1]
    rfl
/-- The row as its block's cells. -/
theorem R_cells {W : World} {base : Nat} {ok : Nat → Prop} {g n c : Nat} {xs : List El} (h : kE.R 39 W base ok (.slice (some ⟨g, 0, none⟩) n c) xs) :
    ∃ cur : Array Value, W.heap[g]? = some (.cells cur 39 (0, 0)) ∧ n = xs.length ∧ xs.length ≤ c ∧ c ≤ maxLen ∧ cur.size = c * 4 ∧ cur.toList.take (xs.length * 4) = flat xs ∧ base ≤ g ∧ ok g := by
  obtain ⟨h0, inner, ⟨hl, ho⟩, hr⟩ := h
  have he := reps_flat_eq hr
  subst he
  rcases ho with ⟨hv, _⟩ | ⟨g', cap, cur, hv, hb, hh, hnc, hcm, hcs, ht⟩
  · cases hv
  · injection hv with h1 h2 h3
    injection h1 with h1
    injection h1 with h1 _ _
    subst h1 h3
    exact ⟨cur, hh, h2, hnc, hcm, hcs, ht, hb, h0 g rfl⟩
theorem R_of_cells {W : World} {base : Nat} {ok : Nat → Prop} {g c : Nat} {xs : List El} {cur : Array Value} (hh : W.heap[g]? = some (.cells cur 39 (0, 0))) (hnc : xs.length ≤ c) (hcm : c ≤ maxLen) (hcs : cur.size = c * 4) (ht : cur.toList.take (xs.length * 4) = flat xs) (hb : base ≤ g) (hok : ok g) :
    kE.R 39 W base ok (.slice (some ⟨g, 0, none⟩) xs.length c) xs :=
  ⟨fun k hk => by simp [Value.ownBlock] at hk; exact hk ▸ hok, flat xs, ⟨by rw [flat_len]; rfl, .inr ⟨g, c, cur, rfl, hb, hh, hnc, hcm, hcs, ht⟩⟩, reps_flat xs _ _ _⟩
/-- copy between rows of four cells an element: all is read before anything is written. -/
theorem run_copy4 {P : Program} (w : World) (dT sT ty elem : TypeId) (b o dLen dCap : Nat) (a : Addr) (sLen sCap : Nat) (cs : List Value)
    (hu : P.underlying dT = some (.slice elem)) (hs : (P.info? elem).map (·.size) = some 4) (hn : cs.length = Nat.min sLen dLen * 4)
    (hsrc : ∀ j v, cs[j]? = some v → w.cell? (a.add j) = some v) (hc : ∀ j, j < cs.length → (w.cell? ⟨b, o + j, none⟩).isSome = true) (hf : ∀ j, j < cs.length → w.frozen? ⟨b, o + j, none⟩ = false) (h1 : ∀ v ∈ cs, v.oneCell' = true) :
    (Builtin.copy_ #[dT, sT] ty #[.slice (some ⟨b, o, none⟩) dLen dCap, .slice (some a) sLen sCap]).run P w = .ok (goInt (Nat.min sLen dLen : Nat)) (w.setCells b o cs) := by
  have hl := run_loadCells_list (P := P) w a cs hsrc
  have hst := run_storeCells_cells (P := P) b o cs 0 w (by simpa using hc) (by simpa using hf) h1
  rw [hn] at hl
  cases hq : P.info? elem with
  | none => simp [hq] at hs
  | some i =>
    have hi : i.size = 4 := by simpa [hq] using hs
    simp [Builtin.copy_, run_underlying hu, Builtin.lenOf, Builtin.firstCells, sizeOf, typeInfo, hq, hi, hl, hst]
theorem run_copy4_none {P : Program} (w : World) (dT sT ty elem : TypeId) (d a : Option Addr) (dLen dCap sLen sCap : Nat) (hu : P.underlying dT = some (.slice elem)) (hs : (P.info? elem).map (·.size) = some 4) (hn : Nat.min sLen dLen = 0) :
    (Builtin.copy_ #[dT, sT] ty #[.slice d dLen dCap, .slice a sLen sCap]).run P w = .ok (goInt 0) w := by
  cases hq : P.info? elem with
  | none => simp [hq] at hs
  | some i =>
    have hl : ∀ (x : Addr), (loadCells x 0).run P w = .ok #[] w := fun x => by simpa using run_loadCells_list (P := P) w x [] (by simp)
    cases d <;> cases a <;> simp [Builtin.copy_, run_underlying hu, Builtin.lenOf, Builtin.firstCells, sizeOf, typeInfo, hq, hn, storeCells, hl]
theorem addJ (g o n : Nat) : (⟨g, o, none⟩ : Addr).add n = ⟨g, o + n, none⟩ := by
  unfold Addr.add
  split
  · rename_i h; rw [h]; rfl
  · rfl
set_option maxRecDepth 4000 in
/-- copy(out[p+1:], out[p:]) over a row of n + 1 elements, p < n. -/
theorem run_shift {W : World} {base : Nat} {ok : Nat → Prop} {g c p n ty : Nat} {xs : List El} (h : kE.R 39 W base ok (.slice (some ⟨g, 0, none⟩) (n + 1) c) xs) (hp : p < n) (hu : Try.prog.underlying 25 = some (.slice 39)) (hs : (Try.prog.info? 39).map (·.size) = some 4) (d1 d2 : Nat) :
    ∃ W', (Builtin.copy_ #[25, 25] ty #[.slice (some ⟨g, (p + 1) * 4, none⟩) (n - p) d1, .slice (some ⟨g, p * 4, none⟩) (n + 1 - p) d2]).run Try.prog W = .ok (goInt (n - p : Nat)) W' ∧
      kE.R 39 W' base ok (.slice (some ⟨g, 0, none⟩) (n + 1) c) (xs.take (p + 1) ++ (xs.drop p).take (n - p)) ∧ W.grownBy W' (some g) := by
  obtain ⟨cur, hh, hn, hnc, hcm, hcs, ht, hb, hok⟩ := R_cells h
  have hxl : xs.length = n + 1 := hn.symm
  have hcl : (flat ((xs.drop p).take (n - p))).length = (n - p) * 4 := by rw [flat_len, List.length_take, List.length_drop]; congr 1; omega
  have hget : ∀ j, j < (n - p) * 4 → W.cell? ⟨g, p * 4 + j, none⟩ = (flat ((xs.drop p).take (n - p)))[j]? := by
    intro j hj
    rw [blk_cell hh]
    have e1 : cur[p * 4 + j]? = (cur.toList.take (xs.length * 4))[p * 4 + j]? := by
      rw [List.getElem?_take_of_lt (by rw [hxl]; omega), Array.getElem?_toList]
    rw [e1, ht, ← flat_take, ← flat_drop, List.getElem?_take_of_lt hj, List.getElem?_drop]
  have hone : ∀ v ∈ flat ((xs.drop p).take (n - p)), v.oneCell' = true := by
    intro v hv
    obtain ⟨e, _, he⟩ := List.mem_flatMap.1 hv
    exact kE.K_one (w := W) (x := e) rfl v he
  have hmin : Nat.min (n + 1 - p) (n - p) = n - p := Nat.min_eq_right (by omega)
  have hr := run_copy4 (P := Try.prog) W 25 25 ty 39 g ((p + 1) * 4) (n - p) d1 ⟨g, p * 4, none⟩ (n + 1 - p) d2 (flat ((xs.drop p).take (n - p))) hu hs (by rw [hcl, hmin])
    (fun j v hv => by
      have hj : j < (n - p) * 4 := by rw [← hcl]; exact (List.getElem?_eq_some_iff.1 hv).1
      rw [addJ, hget j hj, hv])
    (fun j hj => by
      rw [hcl] at hj
      rw [blk_cell hh, Array.getElem?_eq_getElem (by rw [hcs]; omega)]; rfl)
    (fun j _ => blk_frozen hh _) hone
  obtain ⟨cur', h3, h4, h5⟩ := setCells_row (flat ((xs.drop p).take (n - p))) ((p + 1) * 4) W cur hh (by rw [hcl, hcs]; omega)
  obtain ⟨s1, s2, s3, s4⟩ := setCells_same g (flat ((xs.drop p).take (n - p))) ((p + 1) * 4) W
  rw [hmin] at hr
  have hzl : (xs.take (p + 1) ++ (xs.drop p).take (n - p)).length = n + 1 := by rw [List.length_append, List.length_take, List.length_take, List.length_drop]; omega
  refine ⟨_, hr, ?_, ⟨s1, s2, s3, by rw [s4]; exact Nat.le_refl _, fun k _ hk => setCells_far _ _ k (fun he => hk (by rw [he]))⟩⟩
  have hR := R_of_cells (base := base) (ok := ok) (xs := xs.take (p + 1) ++ (xs.drop p).take (n - p)) (c := c) h3 (by rw [hzl]; omega) hcm (by rw [h4, hcs]) (by
    rw [hzl, h5, hcl]
    have e1 : cur.toList.take ((p + 1) * 4) = flat (xs.take (p + 1)) := by
      rw [← flat_take, ← ht, List.take_take, Nat.min_eq_left (by rw [hxl]; omega)]
    rw [e1, flat_app, List.take_append_of_le_length (by rw [List.length_append, flat_len, hcl, List.length_take]; omega), List.take_of_length_le (by rw [List.length_append, flat_len, hcl, List.length_take]; omega)]) hb hok
  rwa [hzl] at hR
end Go.Proofs.Ytkdgholmfnidkaa
