/- Contracts: the reference's halves. -/
import Derived.Test.YtaakefjblldccaaQ
namespace Go.Proofs.Ytaakefjblldccaa
open Go.RowKit

theorem flatR_set : ∀ (l : List Rat2) (k : Nat) (x : Rat2), k < l.length → flatR (l.set k x) = ((flatR l).set (k * 2) (.int .i64 x.1)).set (k * 2 + 1) (.int .i64 x.2)
  | d :: l, 0, x, _ => by simp [flatR, ratC]
  | d :: l, k + 1, x, h => by
    have ih := flatR_set l k x (by simpa using h)
    rw [show (k + 1) * 2 = k * 2 + 2 by omega, show k * 2 + 2 + 1 = (k * 2 + 1) + 2 by omega]
    simp only [flatR, List.flatMap_cons, List.set_cons_succ, ratC] at ih ⊢
    simp only [List.cons_append, List.nil_append, List.set_cons_succ]
    rw [ih]

theorem OwnR.set {w : World} {B g cap : Nat} {l : List Rat2} {n : Nat} (h : OwnR w B (.slice (some ⟨g, 0, none⟩) n cap) l) (hn : n = l.length) {k : Nat} (hk : k < l.length) (x : Rat2) :
    OwnR ((w.setCell ⟨g, k * 2, none⟩ (.int .i64 x.1)).setCell ⟨g, k * 2 + 1, none⟩ (.int .i64 x.2)) B (.slice (some ⟨g, 0, none⟩) n cap) (l.set k x) := by
  subst hn
  unfold OwnR at h ⊢
  have h1 := (World.ownsRow.stored h (k * 2) (.int .i64 x.1)).1
  have h2 := (World.ownsRow.stored h1 (k * 2 + 1) (.int .i64 x.2)).1
  rw [List.length_set, flatR_set l k x hk]
  exact h2

/-- An own list that is not empty. -/
theorem OwnR.split {w : World} {B : Nat} {v : Value} {l : List Rat2} (h : OwnR w B v l) (h0 : 0 < l.length) : ∃ g cap, v = .slice (some ⟨g, 0, none⟩) l.length cap ∧ B ≤ g ∧ g < w.heap.size := by
  rcases h.2 with ⟨rfl, hn⟩ | ⟨g, cap, cur, rfl, hg, hh, _⟩
  · omega
  · exact ⟨g, cap, rfl, hg, (Array.getElem?_eq_some_iff.1 hh).1⟩
theorem OwnR.cells {w : World} {B g cap n : Nat} {l : List Rat2} (h : OwnR w B (.slice (some ⟨g, 0, none⟩) n cap) l) (hn : n = l.length) {k : Nat} (hk : k < l.length) :
    w.cell? ⟨g, k * 2, none⟩ = some (.int .i64 (l.getD k (0, 0)).1) ∧ w.cell? ⟨g, k * 2 + 1, none⟩ = some (.int .i64 (l.getD k (0, 0)).2) ∧ w.frozen? ⟨g, k * 2, none⟩ = false ∧ w.frozen? ⟨g, k * 2 + 1, none⟩ = false := by
  subst hn
  obtain ⟨e1, e2⟩ := flatR_at l k hk
  exact ⟨(World.ownsRow.cellAt h _ (by omega)).trans e1, (World.ownsRow.cellAt h _ (by omega)).trans e2, World.ownsRow.frozenAt h _, World.ownsRow.frozenAt h _⟩

/-- Halved up to k. -/
def halfTo (l : List Rat2) (k : Nat) : List Rat2 := (halfL l).take k ++ l.drop k
theorem halfTo_length (l : List Rat2) (k : Nat) (hk : k ≤ l.length) : (halfTo l k).length = l.length := by
  unfold halfTo; simp [halfL]; omega
theorem halfTo_at {l : List Rat2} {k : Nat} (hk : k < l.length) : (halfTo l k).getD k (0, 0) = l.getD k (0, 0) := by
  unfold halfTo
  have : ((halfL l).take k).length = k := by simp [halfL]; omega
  simp only [List.getD_eq_getElem?_getD]
  rw [List.getElem?_append_right (by omega), this, List.getElem?_drop]
  simp
theorem halfTo_set {l : List Rat2} {k : Nat} (hk : k < l.length) : (halfTo l k).set k (red (l.getD k (0, 0)).1 (2 * (l.getD k (0, 0)).2)) = halfTo l (k + 1) := by
  unfold halfTo
  have : ((halfL l).take k).length = k := by simp [halfL]; omega
  have e : l.drop k = l[k] :: l.drop (k + 1) := List.drop_eq_getElem_cons hk
  rw [List.set_append_right _ _ (by omega), this, Nat.sub_self, half_snoc hk, e]
  simp only [List.set_cons_zero, List.append_assoc, List.singleton_append]
theorem halfTo_end (l : List Rat2) : halfTo l l.length = halfL l := by
  unfold halfTo; rw [List.drop_length, List.append_nil, List.take_of_length_le (by simp [halfL])]

set_option maxRecDepth 100000 in
set_option maxHeartbeats 3200000 in
/-- The loop, behind the equal awards. -/
theorem rhalves_any (EQ : ∀ (v : Value) (c : List Int) (e0 : Int) (w : World), IntsAt w v c → Cvl c → 0 ≤ e0 → e0 ≤ tot c → Calls Try.prog 76 #[v, .int .i64 e0] w (GivesR (eqW c e0) w))
    (v : Value) (c : List Int) (e0 : Int) (w : World) (hv : IntsAt w v c) (hc : Cvl c) (he : 0 ≤ e0) (hes : 2 * e0 ≤ tot c) :
    Calls Try.prog 106 #[v, .int .i64 e0] w (GivesR (halfL (eqW c (2 * e0))) w) := by
  have E1 := Lib.hid (EQ v c (2 * e0) w hv hc (by omega) hes)
  have M1 := Lib.hid (eqW_bd hc (e := 2 * e0) (by omega) hes)
  have hll := eqW_length c (2 * e0)
  have hhi := hc.hi
  have hlo := hc.lo
  have ht := hc.tot
  have e8 : e0 ≤ 8000 := by omega
  clear hv hc EQ hes ht
  generalize eqW c (2 * e0) = l at *
  have l0 : 0 < l.length := by omega
  have l8 : l.length ≤ 8 := by omega
  clear hll hhi hlo
  go_enter Try.func106, Try.ntmps106
  go_wp2_with fail
  refine E1.out.mono ?_
  rintro e w1 ⟨v1, rfl, ho, hb1⟩
  obtain ⟨g, cap, rfl, hg, hgl⟩ := ho.split l0
  have HO := Lib.hid ho
  have HB := Lib.hid hb1
  clear ho hb1 E1
  go_wp2
  go_loopw [6] (fun i wr => ∃ k : Nat, k ≤ l.length ∧ i = .int .i64 k ∧ OwnR wr w.heap.size (.slice (some ⟨g, 0, none⟩) l.length cap) (halfTo l k) ∧ Below w.heap.size w wr ∧ g < wr.heap.size) (fun i _ => l.length - (intOf i).toNat)
  case atStart => exact ⟨0, Nat.zero_le _, rfl, by have := HO.out; unfold halfTo; simpa using this, HB.out, hgl⟩
  case round =>
    obtain ⟨k, hk, rfl, hown, hbel, hgr⟩ := hrel
    by_cases hlt : k < l.length
    · have hn := (halfTo_length l k hk).symm
      obtain ⟨x1, d1, f1, f2⟩ := hown.cells (k := k) hn (by omega)
      rw [halfTo_at hlt] at x1 d1
      have hx := M1.out _ (getD_mem2 hlt)
      have T := Lib.hid (halfTo_set hlt)
      have hi0' : (0 : Int) ≤ (k : Int) := Int.natCast_nonneg _
      have hi2 : (k : Int) < (l.length : Int) := by omega
      have HN := Lib.hid hn
      clear hn
      generalize l.getD k (0, 0) = xd at *
      obtain ⟨n, d⟩ := xd
      simp only at x1 d1 hx T
      have RQ := Lib.hid (fun W => rRatio_any n (2 * d) W (by omega) (by omega) (by omega) (by omega))
      have HO2 := Lib.hid hown
      have HB2 := Lib.hid hbel
      have e1 : IntKind.i64.wrap (2 * d) = 2 * d := IntWalk.i64_in _ (by omega)
      clear hown hbel
      go_wp2_with fail
      go_region_with ((go_at_call 56; refine (RQ.out _).mono ?_; rintro e w2 ⟨rfl, hb2⟩; have hownW := HO2.out.drew.below hb2; obtain ⟨x2, d2, g1, g2⟩ := hownW.cells (k := k) HN.out (by have := HN.out; omega); have hbW := below_trans HB2.out.drew hb2; unfold ratV))
      all_goals
        have O3 := Lib.hid (hownW.set HN.out (k := k) (by have := HN.out; omega) (rn n (2 * d), rd n (2 * d)))
        have hgw : g < w2.heap.size := by have := hb2.size; rw [show wr.drew.heap.size = wr.heap.size from rfl] at this; omega
        have B3 := Lib.hid ((hbW.setCell (p := ⟨g, k * 2, none⟩) hg (.int .i64 (rn n (2 * d)))).setCell (p := ⟨g, k * 2 + 1, none⟩) hg (.int .i64 (rd n (2 * d))))
        have T2 : Hid ((halfTo l k).set k (rn n (2 * d), rd n (2 * d)) = halfTo l (k + 1)) := T
        clear hownW hbW hb2 x1 d1 f1 f2 x2 d2 g1 g2 e1
        go_wp2
        go_roundw
        case rel => exact ⟨k + 1, by omega, by go_num, (by rw [← T2.out]; exact O3.out), B3.out, by simpa using hgw⟩
        case measure => simp [intOf]; omega
    · have e : k = l.length := by omega
      subst e
      have O : Hid (OwnR wr w.heap.size (.slice (some ⟨g, 0, none⟩) l.length cap) (halfL l)) := Lib.hid (by rwa [halfTo_end] at hown)
      have B := Lib.hid hbel
      clear hown hbel
      go_wp2
      go_ret
      exact ⟨_, rfl, O.out, B.out⟩

end Go.Proofs.Ytaakefjblldccaa
