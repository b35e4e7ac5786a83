/- Texts of this claim, laid together: Aw, Kb. -/
import Derived.Test.YtaakefjblldccaaLawD

/- Plain mathematics: awards by a rule share the estate; who claims more. -/
namespace Go.Proofs.Ytaakefjblldccaa
open Go.RowKit

theorem okv_in {c : List Int} {l : List Rat2} (h : Okv c l) : inAll c l = true := by
  unfold inAll
  rw [List.all_eq_true]
  intro k hk
  have hk' : k < c.length := by have := List.mem_range.1 hk; have := h.1; omega
  obtain ⟨h1, h2, h3, h4⟩ := h.2 k hk'
  unfold inB
  rw [Bool.and_eq_true, decide_eq_true_iff, decide_eq_true_iff]
  exact ⟨h3, h4⟩

theorem okv_ar {c : List Int} {l : List Rat2} (hc : Cvl c) (h : Okv c l) : arA c l = true := by
  unfold arA
  rw [Bool.and_eq_true, beq_iff_eq, Bool.not_eq_true', List.any_eq_false]
  refine ⟨h.1, fun x hx => ?_⟩
  obtain ⟨k, hk, rfl⟩ := List.getElem_of_mem hx
  have hk' : k < c.length := by have := h.1; omega
  obtain ⟨h1, h2, h3, h4⟩ := h.2 k hk'
  have hb := hc.holds _ (mem_getD hk')
  rw [List.getD_eq_getElem?_getD, List.getElem?_eq_getElem hk] at h1 h2 h3 h4
  simp only [Option.getD_some] at h1 h2 h3 h4
  generalize l[k] = r at *
  have h5 : c.getD k 0 * r.2 ≤ 1000 * r.2 := Int.mul_le_mul_of_nonneg_right (by omega) (by omega)
  unfold noawd awd
  rw [(betw_iff _ _ _).2 (by omega), (betw_iff _ _ _).2 (by omega)]
  simp

/-- Awards by a rule share the estate. -/
theorem share_sV {c : List Int} {n r : Int} (ha : askE c n = 0) (hr : 1 ≤ r ∧ r ≤ 4) : sV c n (shareL c n r) = true ∧ awE c n (shareL c n r) = 0 := by
  obtain ⟨hc, h1, h2⟩ := askE_ok2 ha
  have hs := hc.shr2 h1 h2 hr
  have ho := shr_okv hs
  have h3 : awE c n (shareL c n r) = 0 := by unfold awE; rw [if_pos ha, if_pos (okv_ar hc ho)]
  refine ⟨?_, h3⟩
  unfold sV shB
  rw [decide_eq_true h3, okv_in ho, shr_adds hs]
  rfl

/-- Who claims more gets no less and loses no less; equal claims get equal awards. -/
structure Fairs (x y : Int) (a b : Rat2) : Prop where
  most : x ≤ y → a.1 * b.2 ≤ b.1 * a.2
  lost : x ≤ y → (x * a.2 - a.1) * b.2 ≤ (y * b.2 - b.1) * a.2
  same : x = y → a = b

theorem shr_fairs {c : List Int} {e : Int} {l : List Rat2} {f : Int → Int} {Q : Int} (h : Shr c e l f Q) {i k : Nat} (hi : i < c.length) (hk : k < c.length) :
    Fairs (c.getD i 0) (c.getD k 0) (l.getD i (0, 0)) (l.getD k (0, 0)) := by
  have hm := h.mono _ (mem_getD hi) _ (mem_getD hk)
  rw [h.aw, getD_map0 hi, getD_map0 hk]
  generalize c.getD i 0 = x at *
  generalize c.getD k 0 = y at *
  have hQ := h.hQ
  refine ⟨fun hxy => ?_, fun hxy => ?_, fun hxy => by rw [hxy]⟩
  · exact (red_cmp hQ hQ).2 (Int.mul_le_mul_of_nonneg_right (hm hxy).1 (by omega))
  · have h1 := (hm hxy).2
    obtain ⟨g, hg, e1, e2, h3, _⟩ := red_spec (f x) Q hQ
    obtain ⟨g', hg', e1', e2', h3', _⟩ := red_spec (f y) Q hQ
    generalize red (f x) Q = a at *
    generalize red (f y) Q = b at *
    have k1 : x * Q - f x = g * (x * a.2 - a.1) := by rw [Int.mul_sub, ← e1, e2]; congr 1; rw [Int.mul_left_comm]
    have k2 : y * Q - f y = g' * (y * b.2 - b.1) := by rw [Int.mul_sub, ← e1', e2']; congr 1; rw [Int.mul_left_comm]
    rw [k1, k2] at h1
    generalize x * a.2 - a.1 = u at *
    generalize y * b.2 - b.1 = v at *
    -- g u ≤ g' v, g a.2 = g' b.2 = Q
    have h5 : g * u * (a.2 * b.2) ≤ g' * v * (a.2 * b.2) := Int.mul_le_mul_of_nonneg_right h1 (Int.mul_nonneg (by omega) (by omega))
    have h6 : g * u * (a.2 * b.2) = Q * (u * b.2) := by rw [e2]; simp only [Int.mul_assoc, Int.mul_left_comm, Int.mul_comm]
    have h7 : g' * v * (a.2 * b.2) = Q * (v * a.2) := by rw [e2']; simp only [Int.mul_assoc, Int.mul_left_comm, Int.mul_comm]
    rw [h6, h7] at h5
    exact Int.le_of_mul_le_mul_left h5 (by omega)

/-- A greater estate gives nobody less. -/
theorem share_more {c : List Int} {e e' r : Int} (h : Cvl c) (he : 0 ≤ e) (hle : e ≤ e') (hs : e' ≤ tot c) (hr : 1 ≤ r ∧ r ≤ 4) {k : Nat} (hk : k < c.length) :
    ((shareL c e r).getD k (0, 0)).1 * ((shareL c e' r).getD k (0, 0)).2 ≤ ((shareL c e' r).getD k (0, 0)).1 * ((shareL c e r).getD k (0, 0)).2 := by
  rw [share_frac c e r, share_frac c e' r, getD_map0 hk, getD_map0 hk]
  refine (red_cmp (frQ_pos _ _ _) (frQ_pos _ _ _)).2 ?_
  have := share_mono h.ne h.pos he hle hs hr _ (mem_getD hk)
  rw [Int.mul_comm (frF c e' r _)] at this
  rw [Int.mul_comm (frF c e' r _)]
  exact this

end Go.Proofs.Ytaakefjblldccaa

/- Small lemmas for the walks of laws. -/
namespace Go.Proofs.Ytaakefjblldccaa
open Go.RowKit

def KB (w W : World) : Prop := Below w.heap.size w W
theorem KB.refl (w : World) : KB w w := Below.refl _ _
theorem KB.alloc {w W : World} (h : KB w W) (o : Obj) : KB w (W.alloc o) := Below.alloc h h.size o
theorem KB.drew {w W : World} (h : KB w W) : KB w W.drew := Below.drew h
theorem KB.call {w W w2 : World} (h : KB w W) (hb : Below W.heap.size W w2) : KB w w2 := Below.trans h (hb.mono h.size)

theorem u16_bounds {x : Int} (h : (Lit.int .u16 x).wf = true) : 0 ≤ x ∧ x ≤ 65535 := by
  simp only [Lit.wf] at h
  have h1 : IntKind.u16.min = 0 := rfl
  have h2 : IntKind.u16.max = 65535 := rfl
  simp [h1, h2] at h
  omega

theorem shareV_bad {c : List Int} {n r : Int} (h : shareE c n r ≠ 0) : shareV c n r = [] := by unfold shareV; rw [if_neg h]
theorem shareE_zero {c : List Int} {n r : Int} (h : shareE c n r = 0) : askE c n = 0 ∧ 1 ≤ r ∧ r ≤ 4 := by
  unfold shareE at h
  split at h
  · split at h
    · rename_i h1 h2
      exact ⟨h1, (betw_iff _ _ _).1 h2⟩
    · omega
  · rename_i h1
    exact absurd h h1

theorem askE_of {c : List Int} {n : Int} (hc : Cvl c) (h0 : 0 ≤ n) (h1 : n ≤ tot c) : askE c n = 0 := by
  unfold askE
  rw [(cvl_iff c).2 hc, if_pos rfl, (betw_iff _ _ _).2 ⟨h0, h1⟩, if_pos rfl]

end Go.Proofs.Ytaakefjblldccaa
