/- The law CorpusSorts returns true whatever came in: no condition. -/
import Derived.Test.YtkdgholmfnidkaaS
import Derived.Test.YtkdgholmfnidkaaY
import Derived.Test.YtkdgholmfnidkaaLaw9
namespace Go.Proofs.Ytkdgholmfnidkaa
open Go.RowKit Go.Proofs.YtkdgholmfnidkaaW.PrintWords Go.Proofs.YtkdgholmfnidkaaW.PrintLast Go.Proofs.YtkdgholmfnidkaaW.PrintMore
theorem Op_sliceN {α : Type} (z : α) {d : Kd α} {t e : TypeId} {B : α → Prop} {b : Nat} (hu : Try.prog.underlying t = some (.slice e)) (hc : Try.prog.cellsOf e = d.sz) (hb : Try.prog.bytesOf e = b) (ho : Op d e B) : Op (Kd.slice e d) t (fun l => (∀ y ∈ l, B y) ∧ l.length * b ≤ 140737488351232) := by
  intro H enc w fuel cs x h hw
  obtain ⟨l, hK, hB⟩ := Op_slice z hu hc ho enc w fuel cs x h hw
  refine ⟨l, hK, hB, ?_⟩
  obtain ⟨A, c, rfl, hlc, _⟩ := hK
  rcases Go.Deep.open_slice hu h with ⟨hcs, rfl⟩ | ⟨a, len, cap, m, n, D, Pl, hcs, _, hl, hm, hmm, rfl, hx⟩
  · simp only [List.cons.injEq, Value.slice.injEq, and_true] at hcs
    rw [hcs.2.1]; omega
  · simp only [List.cons.injEq, Value.slice.injEq, and_true] at hcs
    have h1 := hw ((len + (m - len)) * b) (by simp [DataW.weights, hu, hb])
    rw [hcs.2.1]
    have h2 : len * b ≤ (len + (m - len)) * b := Nat.mul_le_mul_right _ (by omega)
    simp only [reachBytes] at h1
    omega
theorem bytes70 : Try.prog.bytesOf 70 = 32 := by kernel_rfl
theorem bytes39 : Try.prog.bytesOf 39 = 56 := by kernel_rfl
theorem Op_39N : Op k39 39 (fun t => (okR t ∧ rng t.f1 ∧ rng t.f2) ∧ t.f3.length ≤ 4398046510976) := by
  intro H enc w fuel cs x h hw
  obtain ⟨n, hl, hf⟩ := fields Try.underlying39 h hw
  rw [cellsS.2.2.2.1] at hl
  obtain ⟨v0, v1, v2, v3, rfl⟩ := len4 hl
  obtain ⟨y0, h0, w0⟩ := hf 0 9 0 rfl cells1.1
  obtain ⟨y1, h1, w1⟩ := hf 1 3 1 rfl cells1.2.2.1
  obtain ⟨y2, h2, w2⟩ := hf 2 3 2 rfl cells1.2.2.1
  obtain ⟨y3, h3, w3⟩ := hf 3 37 3 rfl cells1.2.2.2.1
  simp only [List.drop_succ_cons, List.drop_zero, List.take_succ_cons, List.take_zero] at h0 h1 h2 h3
  obtain ⟨s0, e0, b0⟩ := Op_string Try.underlying9 enc w n _ _ h0 w0
  obtain ⟨s1, e1, b1⟩ := Op_int Try.underlying3 enc w n _ _ h1 w1
  obtain ⟨s2, e2, b2⟩ := Op_int Try.underlying3 enc w n _ _ h2 w2
  obtain ⟨s3, ⟨A, c, e3, l3, g3⟩, b3, b4⟩ := Op_sliceN z70 Try.underlying37 cellsS.1 bytes70 Op_70 enc w n _ _ h3 w3
  injection e0 with e0
  injection e1 with e1
  injection e2 with e2
  injection e3 with e3
  subst e0 e1 e2 e3
  exact ⟨⟨s0, s1, s2, s3⟩, k39_mk w ⟨s0, s1, s2, s3⟩ l3 g3, ⟨⟨b0, b3⟩, b1, b2⟩, by show s3.length ≤ _; omega⟩
theorem K_regs {W : World} {A : Option Addr} {c : Nat} {L : List S39} (h : k39.C W A L.length L) (hl : L.length ≤ c) : k30.K W ⟨[], [], [], L, [], [], []⟩ [.slice none 0 0, .slice none 0 0, .slice none 0 0, .slice A L.length c, .slice none 0 0, .slice none 0 0, .slice none 0 0] := by
  have hn : ∀ {α : Type} (d : Kd α), d.C W none ([] : List α).length [] := fun d => (R_CK (A := none) (c := 0) (Kd.R_nil d 0 W 0 (fun _ => True))).2
  exact k30_mk W ⟨[], [], [], L, [], [], []⟩ (c0 := 0) (Nat.le_refl _) (hn k62) (c1 := 0) (Nat.le_refl _) (hn _) (c2 := 0) (Nat.le_refl _) (hn k64) (c3 := c) hl h (c4 := 0) (Nat.le_refl _) (hn k74) (c5 := 0) (Nat.le_refl _) (hn _) (c6 := 0) (Nat.le_refl _) (hn _)
set_option maxHeartbeats 8000000 in
set_option maxRecDepth 100000 in
theorem law8_calls (l : List S39) (A : Option Addr) (c : Nat) (w : World) (hr : k39.C w A l.length l) (hlc : l.length ≤ c) (hok : (∀ y ∈ l, (okR y ∧ rng y.f1 ∧ rng y.f2) ∧ y.f3.length ≤ 4398046510976) ∧ l.length * 56 ≤ 140737488351232) :
    Calls Try.prog 8 #[.slice A l.length c] w fun e w' => e = .returned (.bool true) ∧ Below w.heap.size w w' := by
  have hu30 := Try.underlying30
  have HR := Aside0.mk hr
  have hle : l.length ≤ 2513169434843 := by have := hok.2; omega
  have HPL : Aside0 (∀ r ∈ l, r.f3.length ≤ 4398046510976) := ⟨fun r h => (hok.1 r h).2⟩
  have HRG : Aside0 (∀ r ∈ l, rng r.f1 ∧ rng r.f2) := ⟨fun r h => (hok.1 r h).1.2⟩
  clear hok
  have B1 := blk_new w (.cells #[.slice none 0 0, .slice none 0 0, .slice none 0 0, .slice A l.length c, .slice none 0 0, .slice none 0 0, .slice none 0 0] 30)
  have HB : Below w.heap.size w (w.alloc (.cells #[.slice none 0 0, .slice none 0 0, .slice none 0 0, .slice A l.length c, .slice none 0 0, .slice none 0 0, .slice none 0 0] 30)) := below_alloc (Below.refl _ _) _
  have HH := heavy_calls (some ⟨w.heap.size, 0, none⟩) 1 [⟨[], [], [], l, [], [], []⟩] (w.alloc (.cells #[.slice none 0 0, .slice none 0 0, .slice none 0 0, .slice A l.length c, .slice none 0 0, .slice none 0 0, .slice none 0 0] 30)) (C_blk k30 (cs := [.slice none 0 0, .slice none 0 0, .slice none 0 0, .slice A l.length c, .slice none 0 0, .slice none 0 0, .slice none 0 0]) B1 (Reps.front (k30.K_below HB (K_regs hr hlc)) rfl (Reps.none _ _) rfl) (by simp))
  have HLC := Aside0.mk hlc
  have hsl := Aside0.mk (sortR_len l)
  clear hr B1 hlc
  go_enter Try.func8, Try.ntmps8
  go_wp2_with (first
    | (go_at_call 14; refine HH.mono ?_; rintro e w1 ⟨⟨b, rfl⟩, hb⟩; have HB1 := below_step HB hb)
    | (go_at_call 27; refine (SortRegions_calls A c l w1 (Kd.C_below HR.out HB1) hle HPL.out HRG.out).mono ?_; rintro e w2 ⟨A2, c2, rfl, h2, g2, hb2⟩; have HG2 := Aside0.mk g2; have H2 := Aside0.mk h2; clear g2 h2)
    | (go_at_call 28; refine (rSortRegions_calls A c l w2 (Kd.C_below HR.out (below_step HB1 hb2)) hle HPL.out HRG.out).mono ?_; rintro e w3 ⟨A3, c3, rfl, h3, g3, hb3⟩; have HG3 := Aside0.mk g3; have H3 := Aside0.mk h3; clear g3 h3)
    | (go_at_call 20; refine (rEqual_calls ⟨[], [], [], sortR l, [], [], []⟩ ⟨[], [], [], sortR l, [], [], []⟩ [.slice none 0 0, .slice none 0 0, .slice none 0 0, .slice A2 l.length c2, .slice none 0 0, .slice none 0 0, .slice none 0 0] [.slice none 0 0, .slice none 0 0, .slice none 0 0, .slice A3 l.length c3, .slice none 0 0, .slice none 0 0, .slice none 0 0] w3 (by have h := K_regs (A := A2) (c := c2) (L := sortR l) (by rw [hsl.out]; exact Kd.C_below HG2.out hb3) (by rw [hsl.out]; exact H2.out); rw [hsl.out] at h; exact h) (by have h := K_regs (A := A3) (c := c3) (L := sortR l) (by rw [hsl.out]; exact HG3.out) (by rw [hsl.out]; exact H3.out); rw [hsl.out] at h; exact h)).mono ?_; rw [eq30_refl]; rintro e w4 ⟨rfl, hb4⟩)
    | (go_at_call 17; refine (awake_calls _).mono ?_; rintro e w5 ⟨rfl, hb5⟩))
  · go_ret
    exact ⟨rfl, HB1⟩
  · go_ret
    exact ⟨rfl, below_step (below_step (below_step (below_step HB1 hb2) hb3) hb4) hb5⟩
end Go.Proofs.Ytkdgholmfnidkaa
