/- What a valid corpus's parts are like, and what Extract gives: plain laws. -/
import Derived.Test.YtkdgholmfnidkaaI
namespace Go.Proofs.Ytkdgholmfnidkaa
open Go.RowKit Go.Proofs.YtkdgholmfnidkaaW.PrintWords Go.Proofs.YtkdgholmfnidkaaW.PrintLast Go.Proofs.YtkdgholmfnidkaaW.PrintMore

def shiftT (t : S64) (d : Int) : S64 := ⟨t.f0, t.f1 + d, t.f2 + d, t.f3⟩
def shiftR (r : S39) (d : Int) : S39 := ⟨r.f0, r.f1 + d, r.f2 + d, r.f3⟩
def shiftN (n : S74) (d e : Int) : S74 := ⟨n.f0, n.f1 + d, n.f2 + d, if 0 ≤ n.f3 then n.f3 + e else n.f3⟩
def insR (t : S64) (r : S39) : Bool := decide (t.f1 ≤ r.f1) && decide (r.f2 ≤ t.f2)
def cutR (t : S64) (l : List S39) : List S39 := (l.filter (insR t)).map fun r => shiftR r (-t.f1)
def cutN (t : S64) : List S74 → Int → Nat → List S74
  | [], _, _ => []
  | n :: l, a, k => if n.f1 < t.f1 then cutN t l ((k : Int) + 1) (k + 1) else if n.f2 ≤ t.f2 then shiftN n (-t.f1) (-a) :: cutN t l a (k + 1) else cutN t l a (k + 1)
def mid {α : Type} (xs : List α) (b e : Int) : List α := (xs.take e.toNat).drop b.toNat
def hasH (x : S30) (t : S64) : Bool := !(decide (x.f5.length = 0) || noH (mid x.f5 t.f1 t.f2) (mid x.f6 t.f1 t.f2))
def cutX (x : S30) (t : S64) : S30 :=
  ⟨x.f0, mid x.f1 t.f1 t.f2, [shiftT t (-t.f1)], cutR t x.f3, cutN t x.f4 0 0, if hasH x t then (mid x.f5 t.f1 t.f2).map fun h => if 0 ≤ h then h - t.f1 else h else [], if hasH x t then mid x.f6 t.f1 t.f2 else []⟩
def extErr (x : S30) (k : Int) : Int := if (vErr x).2.2 ≠ 0 then 1 else if k < 0 ∨ x.f2.length ≤ k then 8 else 0
def extOf (x : S30) (k : Int) : S30 := if extErr x k = 0 then cutX x (rd_T64 x.f2 k) else z30

theorem firstErr_zero : ∀ (l : List (Int × Int)) (k : Nat), (firstErr l k).2.2 = 0 → ∀ p ∈ l, p.2 = 0
  | [], _, _, _, hp => by cases hp
  | q :: l, k, h, p, hp => by
    unfold firstErr at h
    split at h
    · rename_i hq
      simp only at h
      rw [h] at hq
      simp at hq
    · rename_i hq
      rcases List.mem_cons.1 hp with rfl | hp
      · simpa using hq
      · exact firstErr_zero l (k + 1) h p hp
theorem vErr_zero {x : S30} (h : (vErr x).2.2 = 0) : (attrsErr x.f0).2 = 0 ∧ (toksErr x.f0 x.f1).2 = 0 ∧ (textsErr x.f2 x.f1.length).2 = 0 ∧ (regsErr x.f2 x.f3).2 = 0 ∧ (nodesErr x.f2 x.f4).2 = 0 ∧ (headsErr x.f1.length x.f2 x.f5 x.f6).2 = 0 := by
  have := firstErr_zero _ _ h
  simp only [errs, List.mem_cons, List.not_mem_nil, or_false, forall_eq_or_imp, forall_eq] at this
  exact this
theorem pairs_le {l : List S70} (h : pairsErr l = 0) : l.length ≤ 8 := by
  unfold pairsErr at h
  split at h
  · cases h
  · omega
theorem texts_bound {all : List S64} {n : Int} : ∀ (l : List S64) (e : Int) (k : Nat), (textsGo all n e l k).2 = 0 → 0 ≤ e → ∀ t ∈ l, 0 ≤ t.f1 ∧ t.f1 < t.f2 ∧ t.f2 ≤ n ∧ pairsErr t.f3 = 0
  | [], _, _, _, _, _, hm => by cases hm
  | t :: l, e, k, h, he, u, hm => by
    unfold textsGo at h
    split at h
    · simp at h
    split at h
    · simp at h
    split at h
    · simp at h
    split at h
    · simp at h
    split at h
    · rename_i hp; simp at h; simp [h] at hp
    rename_i h5 h6 h7
    rcases List.mem_cons.1 hm with rfl | hm
    · refine ⟨by omega, by omega, by omega, by simpa using h7⟩
    · exact texts_bound l t.f2 (k + 1) h (by omega) u hm
theorem texts_in {ts : List S64} {n : Nat} (h : (textsErr ts n).2 = 0) : ∀ t ∈ ts, 0 ≤ t.f1 ∧ t.f1 < t.f2 ∧ t.f2 ≤ n ∧ pairsErr t.f3 = 0 := by
  unfold textsErr at h
  split at h
  · simp at h
  split at h
  · simp at h
  exact texts_bound ts 0 0 h (by omega)
theorem inTextB_lt {ts : List S64} {b e : Int} (h : inTextB ts b e = true) : b < e := by
  unfold inTextB at h
  simp only [Bool.and_eq_true, decide_eq_true_eq] at h
  exact h.1
theorem regs_in {ts : List S64} : ∀ (l op : List S39) (prev : Option S39) (k : Nat), (regGo ts op prev l k).2 = 0 → ∀ r ∈ l, inTextB ts r.f1 r.f2 = true ∧ pairsErr r.f3 = 0
  | [], _, _, _, _, _, hm => by cases hm
  | r :: l, op, prev, k, h, u, hm => by
    unfold regGo at h
    split at h
    · simp at h
    split at h
    · simp at h
    split at h
    · rename_i hp; simp at h; simp [h] at hp
    split at h
    · simp at h
    split at h
    · simp at h
    split at h
    · simp at h
    rename_i h1 h2 _ _ _
    rcases List.mem_cons.1 hm with rfl | hm
    · exact ⟨by simpa using h1, by simpa using h2⟩
    · exact regs_in l _ _ _ h u hm
theorem regs_ok {ts : List S64} {l : List S39} (h : (regsErr ts l).2 = 0) : l.length ≤ 1024 ∧ ∀ r ∈ l, r.f1 < r.f2 ∧ pairsErr r.f3 = 0 := by
  unfold regsErr at h
  split at h
  · simp at h
  · exact ⟨by omega, fun r hr => ⟨inTextB_lt (regs_in l _ _ _ h r hr).1, (regs_in l _ _ _ h r hr).2⟩⟩
theorem nodes_in {ts : List S64} {all : List S74} : ∀ (l : List S74) (es ds : List Int) (k : Nat), (nodesGo ts all es ds l k).2 = 0 → all.drop k = l → parsOk all k → ∀ (j : Nat) (n : S74), k ≤ j → all[j]? = some n → n.f1 < n.f2 ∧ -1 ≤ n.f3 ∧ n.f3 < j
  | [], _, _, k, _, hd, _, j, n, hj, hn => by
    have : all.length ≤ k := by simpa using hd
    have := (List.getElem?_eq_some_iff.1 hn).1
    omega
  | x :: l, es, ds, k, h, hd, hp, j, n, hj, hn => by
    have hx : all[k]? = some x := by
      have := congrArg (fun q => q[0]?) hd
      simpa using this
    have hd' : all.drop (k + 1) = l := by
      have := congrArg (List.drop 1) hd
      simpa using this
    unfold nodesGo at h
    split at h
    · simp at h
    split at h
    · simp at h
    split at h
    · simp at h
    split at h
    · simp at h
    split at h
    · simp at h
    split at h
    · simp at h
    rename_i h1 h2 _ _ _
    have hr := isAnc_range hp (by simpa using h2)
    by_cases hjk : j = k
    · subst hjk
      rw [hx] at hn
      obtain rfl := Option.some.inj hn
      exact ⟨inTextB_lt (by simpa using h1), hr.1, hr.2⟩
    · exact nodes_in l _ _ _ h hd' (parsOk_succ hp (by rw [par_at hx]; exact ⟨hr.1, hr.2⟩)) j n (by omega) hn
theorem nodes_ok {ts : List S64} {l : List S74} (h : (nodesErr ts l).2 = 0) : l.length ≤ 2048 ∧ ∀ (j : Nat) (n : S74), l[j]? = some n → n.f1 < n.f2 ∧ -1 ≤ n.f3 ∧ n.f3 < j := by
  unfold nodesErr at h
  split at h
  · simp at h
  · exact ⟨by omega, fun j n hn => nodes_in l _ _ 0 h rfl (fun i h0 h1 => by omega) j n (Nat.zero_le _) hn⟩
end Go.Proofs.Ytkdgholmfnidkaa
