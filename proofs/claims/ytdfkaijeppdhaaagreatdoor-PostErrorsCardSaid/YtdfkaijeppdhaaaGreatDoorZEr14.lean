/- Texts of this claim, laid together: TdC. -/
import Derived.Test.YtdfkaijeppdhaaaGreatDoorZEr13
import Derived.Shelf.Abstract

/- Contracts: a tide that is copied (newTide), and what is asked of it (asked at an int). -/
namespace Go.Proofs.YtdfkaijeppdhaaaGreatDoor.Td
open Go.RowKit
theorem Tryz.info64 : (Tryz.prog.info? 284).map (fun i => (i.zero, i.size, i.bytes)) = some (some (.slice none 0 0), 1, 24) := by kernel_rfl

/-- The results of newTide for a valid tide. -/
def NewT (t : List (List Int)) (w : World) (e : Ending) (w' : World) : Prop :=
  ∃ tv, e = .returned (.tuple #[tv, .int .i64 0]) ∧ RowsAt w' tv t ∧ Below w.heap.size w w'

set_option maxHeartbeats 400000 in
theorem newTide_no (v : Value) (t : List (List Int)) (w : World) (hv : RowsAt w v t) (hno : vld t = false) :
    Calls Tryz.prog 231 #[v] w fun e w' => e = .returned (.tuple #[.slice none 0 0, .int .i64 10]) ∧ w = w' := by
  have N := Lib.hid hno
  clear hno
  go_enter Tryz.func231, Tryz.ntmps231
  go_wp2_with (go_at_call 194; refine (valid_any _ _ _ hv).mono ?_; rintro e w' ⟨rfl, rfl⟩; rw [N.out])
  go_ret2
  exact ⟨rfl, rfl⟩

set_option maxHeartbeats 400000 in
theorem newTide_yes (v : Value) (t : List (List Int)) (w : World) (hv : RowsAt w v t) (hyes : vld t = true) :
    Calls Tryz.prog 231 #[v] w (NewT t w) := by
  have T := (vld_iff t).1 hyes
  have hlo := T.lo
  have hhi := T.hi
  obtain ⟨i0, hi0, hz0, hz1, hz2⟩ := info_parts Tryz.info64
  have N := Lib.hid hyes
  clear hyes T
  obtain ⟨a, cap, rfl, hl, hq⟩ := id hv
  obtain ⟨b, off, rfl, hc⟩ := hq (by omega)
  clear hq
  go_enter Tryz.func231, Tryz.ntmps231
  go_wp2_with (go_at_call 194; refine (valid_any _ _ _ hv).mono ?_; rintro e w' ⟨rfl, rfl⟩; rw [N.out])
  clear hv
  go_loopw [4, 12] (fun o i wr => ∃ (k : Nat) (xs : List Value), k ≤ t.length ∧ i = .int .i64 k ∧ xs.length = k ∧ wr.ownsRow w.heap.size 284 1 o k xs ∧ (∀ j, j < k → IntsAt w (xs.getD j undef) (t.getD j [])) ∧ Below w.heap.size w wr)
    (fun _ i _ => t.length - (intOf i).toNat)
  case atStart => exact ⟨0, [], Nat.zero_le _, rfl, rfl, World.ownsRow_nil _ _ _ _, fun j hj => by omega, Below.refl _ _⟩
  case round =>
    obtain ⟨k, xs, hk, rfl, hxs, hown, hall, hbel⟩ := hrel
    have hsz := hbel.size
    by_cases hlt : k < t.length
    · obtain ⟨x, hx0, hi⟩ := hc k hlt
      generalize hlk : t.getD k [] = lk at hi
      have LK := Lib.hid hlk
      clear hlk
      obtain ⟨xa, xc, rfl, hxr⟩ := id hi
      clear hxr
      have hx := keep_cell hbel hx0
      have XL := Lib.hid hxs
      have HA := Lib.hid hall
      clear hc hx0 hxs hall
      go_wp2_with (at_builtin; refine wpList_append_own _ rfl _ _ 251 rfl w.heap.size 284 i0 (.slice none 0 0) 1 24 Tryz.underlying251 hi0 hz0 hz1 hz2 rfl (by decide) _ _ _ rfl (hown.alloc _) ⟨wr.heap.size, 0, none⟩ 1 1 [.slice xa lk.length xc] rfl rfl ?c1 ?c2 ?c3 ?c4 ?c5 ?_)
      case c1 => exact (cell_one_new _ _ _)
      case c2 => intro u hu; simp at hu; subst hu; rfl
      case c3 => unfold maxLen; omega
      case c4 => omega
      case c5 => simp; omega
      · intro v' w1 hown' hgrow _
        have R := below_append hbel hsz hown hgrow
        clear hown hgrow hbel
        go_wp2
        go_roundw
        case rel => exact ⟨k + 1, xs ++ [.slice xa lk.length xc], by omega, by go_num, by simp [XL.out], hown', fun j hj => by
          rcases Nat.lt_succ_iff_lt_or_eq.1 hj with h | rfl
          · rw [getD_snoc_lt _ _ _ (by rw [XL.out]; exact h)]; exact HA.out j h
          · have e := getD_snoc_eq xs (.slice xa lk.length xc) undef
            rw [XL.out] at e
            rw [e, LK.out]; exact hi, R⟩
        case measure => simp [intOf]; omega
    · have e : k = t.length := by omega
      subst e
      have XL := Lib.hid hxs
      have HA := Lib.hid hall
      clear hxs hall
      go_wp2
      go_ret2
      exact ⟨_, rfl, own_rows hown hl (fun i h => (HA.out i h).below hbel), hbel⟩

/-- What is asked of a tide: the error, and the value. -/
def qe (t : List (List Int)) (right : Bool) : Int := if vld t then (if right then 0 else 2) else 10
def qi (t : List (List Int)) (right : Bool) (x : Int) : Int := if vld t && right then x else 0

theorem qe_no {t : List (List Int)} (h : vld t = false) (r : Bool) : qe t r = 10 := by simp [qe, h]
theorem qe_mid {t : List (List Int)} (h : vld t = true) : qe t false = 2 := by simp [qe, h]
theorem qe_yes {t : List (List Int)} (h : vld t = true) : qe t true = 0 := by simp [qe, h]
theorem qi_no {t : List (List Int)} (h : vld t = false) (r : Bool) (x : Int) : qi t r x = 0 := by simp [qi, h]
theorem qi_mid {t : List (List Int)} (x : Int) : qi t false x = 0 := by simp [qi]
theorem qi_yes {t : List (List Int)} (h : vld t = true) (x : Int) : qi t true x = x := by simp [qi, h]

set_option maxHeartbeats 400000 in
theorem askedInt_any (v : Value) (t : List (List Int)) (right : Bool) (g : Nat) (lb : Array Value) (x : Int) (w : World) (hv : RowsAt w v t)
    (eg : ∀ args w, (callFunc g args).run Tryz.prog w = .ok (.enter g args) w)
    (hg : vld t = true → right = true → ∀ W tv, RowsAt W tv t → Below w.heap.size w W → Calls Tryz.prog g (#[tv] ++ lb) W fun e W' => e = .returned (.int .i64 x) ∧ Below W.heap.size W W') :
    Calls Tryz.prog 196 #[v, .bool right, .func (.func g) #[] lb] w fun e w' => e = .returned (.tuple #[.int .i64 (qi t right x), .int .i64 (qe t right)]) ∧ Below w.heap.size w w' := by
  cases hy : vld t with
  | false =>
    rw [qi_no hy, qe_no hy]
    clear hg
    go_enter Tryz.func196, Tryz.ntmps196
    go_wp2_with (go_at_call 231; refine (newTide_no _ _ _ hv hy).mono ?_; rintro e w' ⟨rfl, rfl⟩)
    go_ret2
    exact ⟨rfl, Below.refl _ _⟩
  | true =>
    cases right with
    | false =>
      rw [qi_mid, qe_mid hy]
      clear hg
      go_enter Tryz.func196, Tryz.ntmps196
      go_wp2_with (go_at_call 231; refine (newTide_yes _ _ _ hv hy).mono ?_; rintro e w' ⟨tv, rfl, hr, hb⟩)
      go_ret2
      exact ⟨rfl, hb⟩
    | true =>
      rw [qi_yes hy, qe_yes hy]
      have hg' := hg hy rfl
      have HG := Lib.hid hg'
      clear hg hg'
      go_enter Tryz.func196, Tryz.ntmps196
      go_wp2_with (first | (go_at_call 231; refine (newTide_yes _ _ _ hv hy).mono ?_; rintro e w1 ⟨tv, rfl, hr, hb⟩) | (go_at_fn g; refine (HG.out _ _ hr hb).mono ?_; rintro e w2 ⟨rfl, hb2⟩))
      go_ret2
      exact ⟨rfl, below_trans hb hb2⟩

end Go.Proofs.YtdfkaijeppdhaaaGreatDoor.Td
