/- Contracts: Shifted and Back of the program. -/
import Derived.Test.YtflhpnhehaokpaaJ
namespace Go.Proofs.Ytflhpnhehaokpaa
open Go.RowKit

/-- A tide, and an error. -/
def GivesRE (t : List (List Int)) (e0 : Int) (w : World) (e : Ending) (w' : World) : Prop := ∃ ov, e = .returned (.tuple #[ov, .int .i64 e0]) ∧ RowsAt w' ov t ∧ Below w.heap.size w w'

def qr (t : List (List Int)) (right : Bool) (x : List (List Int)) : List (List Int) := if vld t && right then x else []
theorem qr_no {t : List (List Int)} (h : vld t = false) (r : Bool) (l : List (List Int)) : qr t r l = [] := by simp [qr, h]
theorem qr_mid {t : List (List Int)} (l : List (List Int)) : qr t false l = [] := by simp [qr]
theorem qr_yes {t : List (List Int)} (h : vld t = true) (l : List (List Int)) : qr t true l = l := by simp [qr, h]

theorem nil_rows (w : World) : RowsAt w (.slice none 0 0) [] := ⟨none, 0, rfl, by simp, fun h => by simp at h⟩

set_option maxHeartbeats 400000 in
theorem askedRows_any (v : Value) (t : List (List Int)) (right : Bool) (g : Nat) (lb : Array Value) (l : List (List Int)) (w : World) (hv : RowsAt w v t)
    (eg : ∀ args w, (callFunc g args).run Try.prog w = .ok (.enter g args) w)
    (hg : vld t = true → right = true → ∀ W tv, RowsAt W tv t → Below w.heap.size w W → Calls Try.prog g (#[tv] ++ lb) W (GivesR l W)) :
    Calls Try.prog 67 #[v, .bool right, .func (.func g) #[] lb] w (GivesRE (qr t right l) (qe t right) w) := by
  cases hy : vld t with
  | false =>
    rw [qr_no hy, qe_no hy]
    clear hg
    go_enter Try.func67, Try.ntmps67
    go_wp2_with (go_at_call 76; refine (newTide_no _ _ _ hv hy).mono ?_; rintro e w' ⟨rfl, rfl⟩)
    go_ret2
    exact ⟨_, rfl, nil_rows _, Below.refl _ _⟩
  | true =>
    cases right with
    | false =>
      rw [qr_mid, qe_mid hy]
      clear hg
      go_enter Try.func67, Try.ntmps67
      go_wp2_with (go_at_call 76; refine (newTide_yes _ _ _ hv hy).mono ?_; rintro e w' ⟨tv, rfl, hr, hb⟩)
      go_ret2
      exact ⟨_, rfl, nil_rows _, hb⟩
    | true =>
      rw [qr_yes hy, qe_yes hy]
      have hg' := hg hy rfl
      have HG := Lib.hid hg'
      clear hg hg'
      go_enter Try.func67, Try.ntmps67
      go_wp2_with (first | (go_at_call 76; refine (newTide_yes _ _ _ hv hy).mono ?_; rintro e w1 ⟨tv, rfl, hr, hb⟩) | (go_at_fn g; refine (HG.out _ _ hr hb).mono ?_; rintro e w2 ⟨ov, rfl, ho, hb2⟩))
      go_ret2
      exact ⟨_, rfl, ho, below_trans hb hb2⟩

/-- The tide of a time that goes backwards; the tide that is so many hours later. -/
def backT (t : List (List Int)) : List (List Int) := mapT (fun l i => -wat l (-(i : Int))) t
def shiftT (by' : Int) (t : List (List Int)) : List (List Int) := mapT (fun l i => wat l ((i : Int) + by')) t

theorem back11_any (v : Value) (l : List Int) (i : Nat) (w : World) (hv : IntsAt w v l) (h0 : 0 < l.length) (hb : ∀ n ∈ l, -100 ≤ n ∧ n ≤ 100) (hi : i ≤ 1000) :
    Calls Try.prog 70 #[v, .int .i64 i] w fun e w' => e = .returned (.int .i64 (-wat l (-(i : Int)))) ∧ w = w' := by
  have hbd := wat_bound hb (-(i : Int))
  go_enter Try.func70, Try.ntmps70
  go_wp2_with (go_at_call 71; refine (at_any _ _ _ _ hv h0).mono ?_; rintro e w' ⟨rfl, rfl⟩)
  go_ret
  exact ⟨rfl, rfl⟩

theorem back1_any (v : Value) (t : List (List Int)) (w : World) (hv : RowsAt w v t) (ht : Vld t) :
    Calls Try.prog 68 #[v] w (GivesR (backT t) w) := by
  have HM := Lib.hid (tmapped_any v t 70 #[] (fun l i => -wat l (-(i : Int))) w hv ht (enters_of Try.func70 (by kernel_rfl) rfl)
    (fun W x l hl hx _ i hi => back11_any x l i W hx (by have := (ht.wave l hl).1; omega) (ht.wave l hl).2.2 (by have := (ht.wave l hl).2.1; omega)))
  unfold backT
  go_enter Try.func68, Try.ntmps68
  go_wp2_with (go_at_call 69; refine HM.out.mono ?_; rintro e w' ⟨ov, rfl, ho, hb⟩)
  go_ret
  exact ⟨_, rfl, ho, hb⟩

theorem tBack_any (v : Value) (t : List (List Int)) (w : World) (hv : RowsAt w v t) :
    Calls Try.prog 28 #[v] w (GivesRE (qr t true (backT t)) (qe t true) w) := by
  have HA := askedRows_any v t true 68 #[] (backT t) _ hv (enters_of Try.func68 (by kernel_rfl) rfl)
    (fun hy _ W tv hr hb => back1_any tv t W hr ((vld_iff t).1 hy))
  have H := Lib.hid HA
  clear HA hv
  go_enter Try.func28, Try.ntmps28
  go_wp2_with (go_at_call 67; refine H.out.mono ?_; rintro e w1 ⟨ov, rfl, ho, hb1⟩)
  go_ret2
  exact ⟨_, rfl, ho, hb1⟩

theorem shift11_any (v : Value) (l : List Int) (i : Nat) (by' : Int) (B : Nat) (w : World) (hv : IntsAt w v l) (h0 : 0 < l.length) (hi : i ≤ 1000) (hby : hourB by' = true)
    (hcell : w.cell? ⟨B, 0, none⟩ = some (.int .i64 by')) :
    Calls Try.prog 79 #[v, .int .i64 i, .pointer (some ⟨B, 0, none⟩)] w fun e w' => e = .returned (.int .i64 (wat l ((i : Int) + by'))) ∧ w = w' := by
  have hb := (hourB_iff _).1 hby
  clear hby
  go_enter Try.func79, Try.ntmps79
  go_wp2_with (go_at_call 71; refine (at_any _ _ _ _ hv h0).mono ?_; rintro e w' ⟨rfl, rfl⟩)
  go_ret
  exact ⟨rfl, rfl⟩

theorem shift1_any (v : Value) (t : List (List Int)) (by' : Int) (B : Nat) (w : World) (hv : RowsAt w v t) (ht : Vld t) (hby : hourB by' = true)
    (hcell : w.cell? ⟨B, 0, none⟩ = some (.int .i64 by')) :
    Calls Try.prog 78 #[v, .pointer (some ⟨B, 0, none⟩)] w (GivesR (shiftT by' t) w) := by
  have HM := Lib.hid (tmapped_any v t 79 #[.pointer (some ⟨B, 0, none⟩)] (fun l i => wat l ((i : Int) + by')) w hv ht (enters_of Try.func79 (by kernel_rfl) rfl)
    (fun W x l hl hx hW i hi => shift11_any x l i by' B W hx (by have := (ht.wave l hl).1; omega) (by have := (ht.wave l hl).2.1; omega) hby (keep_cell hW hcell)))
  unfold shiftT
  clear hcell
  go_enter Try.func78, Try.ntmps78
  go_wp2_with (go_at_call 69; refine HM.out.mono ?_; rintro e w' ⟨ov, rfl, ho, hb⟩)
  go_ret
  exact ⟨_, rfl, ho, hb⟩

set_option maxHeartbeats 400000 in
theorem tShifted_any (v : Value) (t : List (List Int)) (by' : Int) (w : World) (hv : RowsAt w v t) :
    Calls Try.prog 38 #[v, .int .i64 by'] w (GivesRE (qr t (hourB by') (shiftT by' t)) (qe t (hourB by')) w) := by
  have hal : Below w.heap.size w (w.alloc (.cells #[.int .i64 by'] 3)) := (Below.refl _ w).alloc (Nat.le_refl _) _
  have hv1 := hv.below hal
  have hc1 : (w.alloc (.cells #[.int .i64 by'] 3)).cell? ⟨w.heap.size, 0, none⟩ = some (.int .i64 by') := by simp
  have HA := askedRows_any v t (hourB by') 78 #[.pointer (some ⟨w.heap.size, 0, none⟩)] (shiftT by' t) _ hv1 (enters_of Try.func78 (by kernel_rfl) rfl)
    (fun hy hr W tv hr' hb => shift1_any tv t by' w.heap.size W hr' ((vld_iff t).1 hy) hr (keep_cell hb hc1))
  have H := Lib.hid HA
  clear HA hc1 hv1 hv
  go_enter Try.func38, Try.ntmps38
  go_wp2_with (first | (go_at_call 50; refine (isHour_any _ _).mono ?_; rintro e w' ⟨rfl, rfl⟩) | (go_at_call 67; refine H.out.mono ?_; rintro e w1 ⟨ov, rfl, ho, hb1⟩))
  go_ret2
  exact ⟨_, rfl, ho, below_trans hal hb1⟩

end Go.Proofs.Ytflhpnhehaokpaa
