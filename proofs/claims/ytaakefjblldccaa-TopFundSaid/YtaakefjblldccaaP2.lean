/- Contracts: the program's halves of ratios, and claims less awards. -/
import Derived.Test.YtaakefjblldccaaP
namespace Go.Proofs.Ytaakefjblldccaa
open Go.RowKit

/-- Ratios of a moderate size. -/
def Mod (l : List Rat2) : Prop := ∀ x ∈ l, -1000000000 ≤ x.1 ∧ x.1 ≤ 1000000000 ∧ 1 ≤ x.2 ∧ x.2 ≤ 1000000

theorem half_snoc {l : List Rat2} {k : Nat} (hk : k < l.length) : (halfL l).take (k + 1) = (halfL l).take k ++ [red (l.getD k (0, 0)).1 (2 * (l.getD k (0, 0)).2)] := by
  unfold halfL
  rw [List.take_succ_eq_append_getElem (by simpa using hk), List.getD_eq_getElem?_getD, List.getElem?_eq_getElem hk]
  simp
theorem less_snoc {c : List Int} {l : List Rat2} {k : Nat} (hk : k < c.length) (hl : k < l.length) :
    (lessL c l).take (k + 1) = (lessL c l).take k ++ [red (c.getD k 0 * (l.getD k (0, 0)).2 - (l.getD k (0, 0)).1) (l.getD k (0, 0)).2] := by
  unfold lessL
  rw [List.take_succ_eq_append_getElem (by simp; omega), List.getD_eq_getElem?_getD, List.getElem?_eq_getElem hk, List.getD_eq_getElem?_getD, List.getElem?_eq_getElem hl]
  simp
theorem lessL_length (c : List Int) (l : List Rat2) (h : l.length = c.length) : (lessL c l).length = c.length := by
  unfold lessL; simp; omega

set_option maxRecDepth 100000 in
set_option maxHeartbeats 1000000 in
theorem half_any (v : Value) (l : List Rat2) (w : World) (hv : RatsAt w v l) (hl : l.length ≤ 8) (hm : Mod l) :
    Calls Try.prog 125 #[v] w (GivesR (halfL l) w) := by
  obtain ⟨i0, hi0, hz0, hz1, hz2⟩ := info_parts Try.infoRatio
  obtain ⟨a, cap, rfl, hlc, hq⟩ := hv
  have HQ := Lib.hid hq
  have HM := Lib.hid hm
  have HL : Hid ((halfL l).length = l.length) := Lib.hid (by unfold halfL; rw [List.length_map])
  clear hq hm
  go_enter Try.func125, Try.ntmps125
  go_wp2
  go_loopw [3, 8] (fun o i wr => ∃ k : Nat, k ≤ l.length ∧ i = .int .i64 k ∧ OwnR wr w.heap.size o ((halfL l).take k) ∧ Below w.heap.size w wr) (fun _ i _ => l.length - (intOf i).toNat)
  case atStart => exact ⟨0, Nat.zero_le _, rfl, OwnR.nil _ _, Below.refl _ _⟩
  case round =>
    obtain ⟨k, hk, rfl, hown, hbel⟩ := hrel
    have hTk : ((halfL l).take k).length ≤ 8 := by have := HL.out; simp; omega
    by_cases hlt : k < l.length
    · obtain ⟨b, off, rfl, hc⟩ := HQ.out (by omega)
      obtain ⟨x0, d0⟩ := hc k hlt
      have x1 := keep_cell hbel x0
      have d1 := keep_cell hbel d0
      have hx := HM.out _ (getD_mem2 hlt)
      have T := Lib.hid (half_snoc hlt)
      clear hc x0 d0
      generalize l.getD k (0, 0) = xd at *
      obtain ⟨n, d⟩ := xd
      simp only at x1 d1 hx T
      have hsz := hbel.size
      go_wp2_with fail
      refine (ratio_any _ _ _ (by omega) (by omega) (by omega) (by omega)).mono ?_
      rintro e w2 ⟨rfl, hb2⟩
      have hal : Below wr.heap.size wr (wr.alloc (.cells #[.int .i64 n, .int .i64 d] 23)) := (Below.refl _ _).alloc (Nat.le_refl _) _
      have hownW := (hown.below hal).below hb2
      have hbW := below_trans hbel (below_trans hal hb2)
      clear hown hbel hb2 x1 d1 hal
      unfold ratV
      go_wp2_with (at_builtin; refine wpList_append_own _ rfl _ _ 30 rfl w.heap.size 23 i0 (.agg #[.int .i64 0, .int .i64 0]) 2 16 Try.underlying30 hi0 hz0 hz1 hz2 rfl (by decide) _ _ _ rfl (hownW.row.alloc _) ⟨w2.heap.size, 0, none⟩ 1 1 [.int .i64 (rn n (2 * d)), .int .i64 (rd n (2 * d))] rfl rfl (cell2_new _ _ _ _ rfl) ?c2 ?c3 ?c4 ?c5 ?_)
      case c2 => intro u hu; simp at hu; rcases hu with rfl | rfl <;> rfl
      case c3 => unfold maxLen; omega
      case c4 => omega
      case c5 => have := hbW.size; simp; omega
      intro v' w3 hown' hgrow _
      have O3 : Hid (OwnR w3 (w.heap.size) v' ((halfL l).take (k + 1))) := Lib.hid (by rw [T.out]; exact OwnR.snoc (by first | rfl | simp) hown')
      have B3 := Lib.hid (below_append hbW hbW.size hownW.row hgrow)
      clear hown' hgrow
      clear hownW hbW
      go_wp2
      go_roundw
      case rel => exact ⟨k + 1, by omega, by go_num, O3.out, B3.out⟩
      case measure => simp [intOf]; omega
    · have e : k = l.length := by omega
      subst e
      have O : Hid (OwnR wr w.heap.size u3 (halfL l)) := Lib.hid (by rwa [List.take_of_length_le (by rw [HL.out]; exact Nat.le_refl _)] at hown)
      have B := Lib.hid hbel
      clear hown hbel
      go_wp2
      go_ret
      exact ⟨_, rfl, O.out, B.out⟩

set_option maxRecDepth 100000 in
set_option maxHeartbeats 1000000 in
theorem less_any (v x : Value) (c : List Int) (l : List Rat2) (w : World) (hv : IntsAt w v c) (hx : RatsAt w x l) (hc : Cvl c) (hl : l.length = c.length) (hm : Mod l) :
    Calls Try.prog 124 #[v, x] w (GivesR (lessL c l) w) := by
  obtain ⟨i0, hi0, hz0, hz1, hz2⟩ := info_parts Try.infoRatio
  have hhi := hc.hi
  have hlo := hc.lo
  have lc : c.length ≤ l.length := by omega
  obtain ⟨b, off, cap, rfl, hcc⟩ := ints_cell hv (by omega)
  obtain ⟨b2, off2, cap2, hcap, rfl, hcl⟩ := rats_cell hx (by omega)
  have HC := Lib.hid hcc
  have HR := Lib.hid hcl
  have HM := Lib.hid hm
  have HH := Lib.hid hc
  have HL := Lib.hid (lessL_length c l hl)
  clear hm hv hx hc hl hcc hcl
  go_enter Try.func124, Try.ntmps124
  go_wp2
  go_loopw [5, 10] (fun o i wr => ∃ k : Nat, k ≤ c.length ∧ i = .int .i64 k ∧ OwnR wr w.heap.size o ((lessL c l).take k) ∧ Below w.heap.size w wr) (fun _ i _ => c.length - (intOf i).toNat)
  case atStart => exact ⟨0, Nat.zero_le _, rfl, OwnR.nil _ _, Below.refl _ _⟩
  case round =>
    obtain ⟨k, hk, rfl, hown, hbel⟩ := hrel
    have hTk : ((lessL c l).take k).length ≤ 8 := by have := HL.out; simp; omega
    by_cases hlt : k < c.length
    · have hkl : k < l.length := by omega
      obtain ⟨x0, d0⟩ := HR.out k hkl
      have x1 := keep_cell hbel x0
      have d1 := keep_cell hbel d0
      have c1 := keep_cell hbel (HC.out k hlt)
      have hx := HM.out _ (getD_mem2 hkl)
      have hcb := HH.out.holds _ (mem_getD hlt)
      have T := Lib.hid (less_snoc hlt hkl)
      clear x0 d0
      generalize l.getD k (0, 0) = xd at *
      obtain ⟨n, d⟩ := xd
      simp only at x1 d1 hx T
      generalize c.getD k 0 = cl at *
      have m1 : 0 ≤ cl * d ∧ cl * d ≤ 1000 * 1000000 := ⟨Int.mul_nonneg (by omega) (by omega), Int.mul_le_mul (by omega) (by omega) (by omega) (by omega)⟩
      have E : Hid (ratV (cl * d - n * 1) (1 * d) = .agg #[.int .i64 (red (cl * d - n) d).1, .int .i64 (red (cl * d - n) d).2]) := Lib.hid (by rw [Int.mul_one, Int.one_mul]; rfl)
      go_wp2_with fail
      refine (minus_any cl 1 n d _ (by omega) (by omega) (by omega) (by omega)).mono ?_
      rintro e w2 ⟨rfl, hb2⟩
      have hownW := hown.below hb2
      have hbW := below_trans hbel hb2
      clear hown hbel hb2 x1 d1 c1
      rw [E.out]
      go_wp2_with (at_builtin; refine wpList_append_own _ rfl _ _ 30 rfl w.heap.size 23 i0 (.agg #[.int .i64 0, .int .i64 0]) 2 16 Try.underlying30 hi0 hz0 hz1 hz2 rfl (by decide) _ _ _ rfl (hownW.row.alloc _) ⟨w2.heap.size, 0, none⟩ 1 1 [.int .i64 ((red (cl * d - n) d).1), .int .i64 ((red (cl * d - n) d).2)] rfl rfl (cell2_new _ _ _ _ rfl) ?c2 ?c3 ?c4 ?c5 ?_)
      case c2 => intro u hu; simp at hu; rcases hu with rfl | rfl <;> rfl
      case c3 => unfold maxLen; omega
      case c4 => omega
      case c5 => have := hbW.size; simp; omega
      intro v' w3 hown' hgrow _
      have O3 : Hid (OwnR w3 (w.heap.size) v' ((lessL c l).take (k + 1))) := Lib.hid (by rw [T.out]; exact OwnR.snoc (by first | rfl | simp) hown')
      have B3 := Lib.hid (below_append hbW hbW.size hownW.row hgrow)
      clear hown' hgrow
      clear hownW hbW
      go_wp2
      go_roundw
      case rel => exact ⟨k + 1, by omega, by go_num, O3.out, B3.out⟩
      case measure => simp [intOf]; omega
    · have e : k = c.length := by omega
      subst e
      have O : Hid (OwnR wr w.heap.size u5 (lessL c l)) := Lib.hid (by rwa [List.take_of_length_le (by rw [HL.out]; exact Nat.le_refl _)] at hown)
      have B := Lib.hid hbel
      clear hown hbel
      go_wp2
      go_ret
      exact ⟨_, rfl, O.out, B.out⟩

end Go.Proofs.Ytaakefjblldccaa
