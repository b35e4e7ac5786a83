/- Contract: slices.Reverse of a list of deeds. -/
import Derived.Test.YtikcpfpeoofppaaData
import Derived.Test.YtikcpfpeoofppaaProg
import Derived.Laws.OwnMore
import Derived.KernelRfl
namespace Go.Proofs.Ytikcpfpeoofppaa
open Go.RowKit

/-- Behind a number of rounds. -/
def Half (out cur : List Deed) (i : Nat) : Prop := cur.length = out.length ∧ 2 * i ≤ out.length ∧ ∀ k, k < out.length → cur.getD k noDeed = if k < i ∨ out.length ≤ k + i then out.getD (out.length - 1 - k) noDeed else out.getD k noDeed

theorem flatD_set (l : List Deed) (k : Nat) (d : Deed) (h : k < l.length) : flatD (l.set k d) = ((((flatD l).set (k * 3) (.int .i64 d.1)).set (k * 3 + 1) (.int .i64 d.2.1)).set (k * 3 + 2) (.int .i64 d.2.2)) := by
  induction l generalizing k with
  | nil => simp at h
  | cons x l ih =>
    cases k with
    | zero => simp [flatD, deedC]
    | succ k =>
      have := ih k (by simpa using h)
      rw [List.set_cons_succ, show flatD (x :: l.set k d) = deedC x ++ flatD (l.set k d) from rfl, this, show flatD (x :: l) = deedC x ++ flatD l from rfl]
      rw [show (k + 1) * 3 = k * 3 + 3 by omega]
      simp [deedC]

theorem getD_setD {l : List Deed} {k : Nat} (hk : k < l.length) (x : Deed) (j : Nat) : (l.set k x).getD j noDeed = if k = j then x else l.getD j noDeed := by
  by_cases h : k = j
  · subst h; simp [List.getD_eq_getElem?_getD, hk]
  · simp [List.getD_eq_getElem?_getD, List.getElem?_set_ne h, h]

theorem Half.swap {out cur : List Deed} {i j : Nat} (h : Half out cur i) (hij : i + j + 1 = out.length) (hlt : i < j) : Half out ((cur.set i (cur.getD j noDeed)).set j (cur.getD i noDeed)) (i + 1) := by
  obtain ⟨h1, h2, h3⟩ := h
  refine ⟨by simp [h1], by omega, fun k hk => ?_⟩
  rw [getD_setD (by simp; omega), getD_setD (by omega)]
  by_cases e1 : j = k
  · subst e1
    rw [if_pos rfl, h3 i (by omega), if_neg (by omega), if_pos (by omega)]
    congr 1
    omega
  · rw [if_neg e1]
    by_cases e2 : i = k
    · subst e2
      rw [if_pos rfl, h3 j (by omega), if_neg (by omega), if_pos (by omega)]
      congr 1
      omega
    · rw [if_neg e2, h3 k hk]
      by_cases e3 : k < i ∨ out.length ≤ k + i
      · rw [if_pos e3, if_pos (by omega)]
      · rw [if_neg e3, if_neg (by omega)]

theorem Half.done {out cur : List Deed} {i : Nat} (h : Half out cur i) (hi : out.length ≤ 2 * i + 1) : cur = out.reverse := by
  obtain ⟨h1, h2, h3⟩ := h
  apply List.ext_getElem (by simp [h1])
  intro k hk hk2
  have hk3 : k < out.length := by omega
  have := h3 k hk3
  rw [List.getD_eq_getElem?_getD, List.getElem?_eq_getElem hk] at this
  rw [List.getElem_reverse]
  simp only [Option.getD_some] at this
  rw [this]
  by_cases e : k < i ∨ out.length ≤ k + i
  · rw [if_pos e, List.getD_eq_getElem?_getD, List.getElem?_eq_getElem (by omega)]
    rfl
  · rw [if_neg e, List.getD_eq_getElem?_getD, List.getElem?_eq_getElem hk3]
    simp only [Option.getD_some]
    congr 1
    omega

theorem own_set3 {W : World} {n0 g n cap : Nat} {l : List Deed} (h : W.ownsRow n0 43 3 (.slice (some ⟨g, 0, none⟩) n cap) n (flatD l)) (k : Nat) (hk : k < l.length) (d : Deed) :
    (((W.setCell ⟨g, k * 3, none⟩ (.int .i64 d.1)).setCell ⟨g, k * 3 + 1, none⟩ (.int .i64 d.2.1)).setCell ⟨g, k * 3 + 2, none⟩ (.int .i64 d.2.2)).ownsRow n0 43 3 (.slice (some ⟨g, 0, none⟩) n cap) n (flatD (l.set k d)) := by
  rw [flatD_set l k d hk]
  exact ((((h.stored _ _).1).stored _ _).1.stored _ _).1

set_option maxRecDepth 100000 in
set_option maxHeartbeats 4000000 in
theorem reverse_any (n0 g cap : Nat) (out : List Deed) (w : World) (hr : w.ownsRow n0 43 3 (.slice (some ⟨g, 0, none⟩) out.length cap) out.length (flatD out)) (hn : out.length ≤ 100000) :
    Calls Try.prog 86 #[.slice (some ⟨g, 0, none⟩) out.length cap] w fun e w' => (∃ u, e = .returned u) ∧ w'.ownsRow n0 43 3 (.slice (some ⟨g, 0, none⟩) out.length cap) out.length (flatD out.reverse) ∧ Below n0 w w' := by
  have hg : n0 ≤ g := (hr.lt g rfl).1
  have HR := Lib.hid hr
  have hw : IntKind.i64.wrap ((out.length : Int) - 1) = (out.length : Int) - 1 := IntWalk.i64_in _ (by omega)
  clear hr
  generalize hno : out.length = n at *
  have HN := Lib.hid hno
  clear hno
  go_enter Try.func86, Try.ntmps86
  go_wp2
  go_loopw [2, 3] (fun a b wr => ∃ (i : Nat) (cur : List Deed), a = .int .i64 i ∧ b = .int .i64 ((n : Int) - 1 - i) ∧ Hid (Half out cur i) ∧ i ≤ n ∧ wr.ownsRow n0 43 3 (.slice (some ⟨g, 0, none⟩) n cap) n (flatD cur) ∧ Below n0 w wr) (fun a _ _ => n - (intOf a).toNat)
  case atStart => exact ⟨0, out, rfl, by simp, Lib.hid ⟨rfl, by omega, fun k hk => by rw [if_neg (by omega)]⟩, Nat.zero_le _, HR.out, Below.refl _ _⟩
  case round =>
    obtain ⟨i, cur, rfl, rfl, HH, hi, hrow, hbel⟩ := hrel
    by_cases hlt : (i : Int) < (n : Int) - 1 - i
    · obtain ⟨j, hj⟩ : ∃ j : Nat, (n : Int) - 1 - i = j := ⟨n - 1 - i, by omega⟩
      have hcl : cur.length = n := by rw [HH.out.1, HN.out]
      obtain ⟨u0, u1, u2⟩ := flatD_at cur i (by omega)
      obtain ⟨v0, v1, v2⟩ := flatD_at cur j (by omega)
      have c0 := (hrow.cellAt (i * 3) (by omega)).trans u0
      have c1 := (hrow.cellAt (i * 3 + 1) (by omega)).trans u1
      have c2 := (hrow.cellAt (i * 3 + 2) (by omega)).trans u2
      have d0 := (hrow.cellAt (j * 3) (by omega)).trans v0
      have d1 := (hrow.cellAt (j * 3 + 1) (by omega)).trans v1
      have d2 := (hrow.cellAt (j * 3 + 2) (by omega)).trans v2
      have f0 := hrow.frozenAt (i * 3)
      have f1 := hrow.frozenAt (i * 3 + 1)
      have f2 := hrow.frozenAt (i * 3 + 2)
      have e0 := hrow.frozenAt (j * 3)
      have e1 := hrow.frozenAt (j * 3 + 1)
      have e2 := hrow.frozenAt (j * 3 + 2)
      have HRW := Lib.hid hrow
      have HCL := Lib.hid hcl
      have b1 : (i : Int) < (n : Int) := by omega
      have b2 : (j : Int) < (n : Int) := by omega
      have hij : i < j := by omega
      have b3 : (i : Int) < (j : Int) := by omega
      have HIJ : Hid (i + j + 1 = n) := Lib.hid (by omega)
      have w1 : IntKind.i64.wrap ((i : Int) + 1) = (i : Int) + 1 := IntWalk.i64_in _ (by omega)
      have w2 : IntKind.i64.wrap ((j : Int) - 1) = (j : Int) - 1 := IntWalk.i64_in _ (by omega)
      rw [hj]
      clear u0 u1 u2 v0 v1 v2 hrow hj hcl hlt
      have HC := Lib.hid (rfl : cur.getD i noDeed = cur.getD i noDeed)
      generalize hci : cur.getD i noDeed = ci at *
      generalize hcj : cur.getD j noDeed = cj at *
      obtain ⟨ci1, ci2, ci3⟩ := ci
      obtain ⟨cj1, cj2, cj3⟩ := cj
      have HCI := Lib.hid hci
      have HCJ := Lib.hid hcj
      clear hci hcj HC
      simp only at c0 c1 c2 d0 d1 d2
      go_wp2
      go_region
      all_goals go_wp2
      have R1 := own_set3 HRW.out i (by have := HCL.out; omega) (cj1, cj2, cj3)
      have R2 := own_set3 R1 j (by have := HCL.out; rw [List.length_set]; omega) (ci1, ci2, ci3)
      have HS := HH.out.swap (by rw [HN.out]; exact HIJ.out) hij
      rw [HCI.out, HCJ.out] at HS
      have hI := HIJ.out
      refine ⟨⟨i + 1, _, rfl, by congr 1; omega, Lib.hid HS, by omega, R2.drew, ?_⟩, by simp [intOf]; omega⟩
      exact ((((((hbel.setCell (p := ⟨g, _, none⟩) hg _).setCell (p := ⟨g, _, none⟩) hg _).setCell (p := ⟨g, _, none⟩) hg _).setCell (p := ⟨g, _, none⟩) hg _).setCell (p := ⟨g, _, none⟩) hg _).setCell (p := ⟨g, _, none⟩) hg _).drew
    · have HD := HH.out.done (by rw [HN.out]; omega)
      rw [HD] at hrow
      have HRW := Lib.hid hrow
      clear hrow HD
      go_wp2
      go_end0
      exact ⟨⟨_, rfl⟩, HRW.out, hbel⟩

set_option maxHeartbeats 1000000 in
theorem reverse_nil (w : World) :
    Calls Try.prog 86 #[.slice none 0 0] w fun e w' => (∃ u, e = .returned u) ∧ w' = w := by
  go_enter Try.func86, Try.ntmps86
  go_wp2
  refine wp_loop_rounds 1 ?_
  rw [rounds_succ]
  go_wp2
  go_end0
  exact ⟨⟨_, rfl⟩, rfl⟩

end Go.Proofs.Ytikcpfpeoofppaa
