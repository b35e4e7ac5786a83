/- Contracts: the program's lists of ratios: equal awards, halves, claims less awards, in proportion. -/
import Derived.Test.YtaakefjblldccaaO
namespace Go.Proofs.Ytaakefjblldccaa
open Go.RowKit

theorem OwnR.row {w : World} {B : Nat} {v : Value} {l : List Rat2} (h : OwnR w B v l) : w.ownsRow B 23 2 v l.length (flatR l) := h

/-- A new list of ratios, and nothing that lay has turned. -/
def GivesR (l : List Rat2) (w : World) (e : Ending) (w' : World) : Prop := ∃ v, e = .returned v ∧ OwnR w' w.heap.size v l ∧ Below w.heap.size w w'

theorem take_map_snoc {f : Int → Rat2} {c : List Int} {k : Nat} (hk : k < c.length) : (c.map f).take (k + 1) = (c.map f).take k ++ [f (c.getD k 0)] := by
  rw [List.take_succ_eq_append_getElem (by simpa using hk), List.getD_eq_getElem?_getD, List.getElem?_eq_getElem hk]
  simp
theorem pair_eta (x : Rat2) : x = (x.1, x.2) := rfl

set_option maxRecDepth 100000 in
set_option maxHeartbeats 1000000 in
theorem proportion_any (v : Value) (c : List Int) (e0 : Int) (w : World) (hv : IntsAt w v c) (hc : Cvl c) (he : 0 ≤ e0) (hes : e0 ≤ 8000) :
    Calls Try.prog 114 #[v, .int .i64 e0] w (GivesR (propL c e0) w) := by
  have HV := Lib.hid hv
  have HH := Lib.hid hc
  have hhi := hc.hi
  have hlo := hc.lo
  have ht := tot_bd hc c.length (Nat.le_refl _)
  rw [List.take_length] at ht
  obtain ⟨i0, hi0, hz0, hz1, hz2⟩ := info_parts Try.infoRatio
  obtain ⟨b, off, cap, rfl, hcc⟩ := ints_cell hv (by omega)
  have HC := Lib.hid hcc
  clear hv hc hcc
  go_enter Try.func114, Try.ntmps114
  go_wp2_with fail
  refine (sum_any _ _ _ HV.out HH.out).mono ?_
  rintro e w' ⟨rfl, rfl⟩
  have P : Hid (propL c e0 = c.map fun x => red (x * e0) (max 1 (tot c))) := Lib.hid rfl
  generalize tot c = tt at *
  have ha : 1 ≤ max 1 tt ∧ max 1 tt ≤ 8000 := by omega
  go_wp2
  generalize max 1 tt = A at *
  have hL : (propL c e0).length = c.length := by rw [P.out, List.length_map]
  have HL := Lib.hid hL
  clear hL
  go_loopw [6, 14] (fun o i wr => ∃ k : Nat, k ≤ c.length ∧ i = .int .i64 k ∧ OwnR wr w.heap.size o ((propL c e0).take k) ∧ Below w.heap.size w wr) (fun _ i _ => c.length - (intOf i).toNat)
  case atStart => exact ⟨0, Nat.zero_le _, rfl, OwnR.nil _ _, Below.refl _ _⟩
  case round =>
    obtain ⟨k, hk, rfl, hown, hbel⟩ := hrel
    have hTk : ((propL c e0).take k).length ≤ 8 := by have := HL.out; simp; omega
    by_cases hlt : k < c.length
    · have hcell := keep_cell hbel (HC.out k hlt)
      have hx := HH.out.holds _ (mem_getD hlt)
      have T : Hid ((propL c e0).take (k + 1) = (propL c e0).take k ++ [(rn (c.getD k 0 * e0) A, rd (c.getD k 0 * e0) A)]) := Lib.hid (by rw [P.out]; exact take_map_snoc hlt)
      generalize c.getD k 0 = x at *
      have m1 : 0 ≤ x * e0 ∧ x * e0 ≤ 1000 * 8000 := ⟨Int.mul_nonneg (by omega) (by omega), Int.mul_le_mul (by omega) (by omega) (by omega) (by omega)⟩
      go_wp2_with fail
      refine (ratio_any _ _ _ (by omega) (by omega) (by omega) (by omega)).mono ?_
      rintro e w2 ⟨rfl, hb2⟩
      have hownW := hown.below hb2
      have hbW := below_trans hbel hb2
      clear hown hbel hb2 hcell
      unfold ratV
      go_wp2_with (at_builtin; refine wpList_append_own _ rfl _ _ 30 rfl w.heap.size 23 i0 (.agg #[.int .i64 0, .int .i64 0]) 2 16 Try.underlying30 hi0 hz0 hz1 hz2 rfl (by decide) _ _ _ rfl (hownW.row.alloc _) ⟨w2.heap.size, 0, none⟩ 1 1 [.int .i64 (rn (x * e0) A), .int .i64 (rd (x * e0) A)] rfl rfl (cell2_new _ _ _ _ rfl) ?c2 ?c3 ?c4 ?c5 ?_)
      case c2 => intro u hu; simp at hu; rcases hu with rfl | rfl <;> rfl
      case c3 => unfold maxLen; omega
      case c4 => omega
      case c5 => have := hbW.size; simp; omega
      intro v' w3 hown' hgrow _
      have O3 : Hid (OwnR w3 (w.heap.size) v' ((propL c e0).take (k + 1))) := Lib.hid (by rw [T.out]; exact OwnR.snoc (by first | rfl | simp) hown')
      have B3 := Lib.hid (below_append hbW hbW.size hownW.row hgrow)
      clear hown' hgrow
      clear hownW hbW
      go_wp2
      go_roundw
      case rel => exact ⟨k + 1, by omega, by go_num, O3.out, B3.out⟩
      case measure => simp [intOf]; omega
    · have e : k = c.length := by omega
      subst e
      have O : Hid (OwnR wr w.heap.size u6 (propL c e0)) := Lib.hid (by rwa [List.take_of_length_le (by rw [HL.out]; exact Nat.le_refl _)] at hown)
      have B := Lib.hid hbel
      clear hown hbel
      go_wp2
      go_ret
      exact ⟨_, rfl, O.out, B.out⟩

theorem cmp_lt {a b : Int} (h : a < b) : Lib.compareInt a b = -1 := by unfold Lib.compareInt; rw [if_pos h]
theorem cmp_ge {a b : Int} (h : ¬ a < b) : 0 ≤ Lib.compareInt a b := by unfold Lib.compareInt; rw [if_neg h]; split <;> omega

theorem eqW_snoc {c : List Int} {e : Int} {k : Nat} (hk : k < c.length) :
    (eqW c e).take (k + 1) = (eqW c e).take k ++ [red (cap (rawLev (srt c) e).1 (rawLev (srt c) e).2 (c.getD k 0)) (rawLev (srt c) e).2] := take_map_snoc hk

set_option maxRecDepth 100000 in
set_option maxHeartbeats 2000000 in
theorem equal_any (v : Value) (c : List Int) (e0 : Int) (w : World) (hv : IntsAt w v c) (hc : Cvl c) (he : 0 ≤ e0) (hes : e0 ≤ tot c) :
    Calls Try.prog 74 #[v, .int .i64 e0] w (GivesR (eqW c e0) w) := by
  have HV := Lib.hid hv
  have HH := Lib.hid hc
  have hhi := hc.hi
  have hlo := hc.lo
  have ht := tot_bd hc c.length (Nat.le_refl _)
  rw [List.take_length] at ht
  obtain ⟨i0, hi0, hz0, hz1, hz2⟩ := info_parts Try.infoRatio
  have L1 := Lib.hid (level_any v c e0 w hv hc he ⟨hes, by omega⟩)
  obtain ⟨b, off, cap0, rfl, hcc⟩ := ints_cell hv (by omega)
  have HC := Lib.hid hcc
  have hbl : b < w.heap.size := World.block_lt_of_cell? _ _ (hcc 0 (by omega))
  clear hv hc hcc
  have hLv : (eqW c e0).length = c.length := by unfold eqW levA; rw [List.length_map]
  have HL := Lib.hid hLv
  have q1 := rawLev_q (srt c) e0
  obtain ⟨p1, p2, q2⟩ := rawLev_bd (srt c) e0 (fun x hx => (HH.out.holds x ((sort_perm c).mem_iff.1 hx)).1) he
  have hsl := srt_length c
  have S := Lib.hid (fun k hk => eqW_snoc (c := c) (e := e0) (k := k) hk)
  clear hLv
  generalize hpp : (rawLev (srt c) e0).1 = p at *
  generalize hqq : (rawLev (srt c) e0).2 = q at *
  have rb := red_bd (n := p) (d := q) (B := 8000) q1 (by omega) (by omega)
  have rp := red_pos (n := p) (d := q) q1 (by omega)
  have q9 : q ≤ 9 := by omega
  clear hpp hqq hsl q2
  have L2 : Hid (Calls Try.prog 104 #[.slice (some ⟨b, off, none⟩) c.length cap0, .int .i64 e0] w fun e w' => e = .returned (.agg #[.int .i64 (red p q).1, .int .i64 (red p q).2]) ∧ Below w.heap.size w w') := L1
  have O1 := Lib.hid (fun x (h : x * (red p q).2 < (red p q).1) => lev_one q1 h)
  have O2 := Lib.hid (fun x (h : ¬ x * (red p q).2 < (red p q).1) => lev_two q1 h)
  clear L1
  have R0 : Hid (red p q = ((red p q).1, (red p q).2)) := Lib.hid rfl
  generalize (red p q).1 = N at *
  generalize (red p q).2 = D at *
  go_enter Try.func74, Try.ntmps74
  go_wp2_with fail
  refine L2.out.mono ?_
  rintro e w1 ⟨rfl, hb1⟩
  have hsz := hb1.size
  clear L2
  go_wp2
  go_loopw [6, 14] (fun o i wr => ∃ k : Nat, k ≤ c.length ∧ i = .int .i64 k ∧ OwnR wr (w1.heap.size + 1) o ((eqW c e0).take k) ∧ Below (w1.heap.size + 1) (w1.alloc (.cells #[.int .i64 N, .int .i64 D] 23)) wr) (fun _ i _ => c.length - (intOf i).toNat)
  case atStart => exact ⟨0, Nat.zero_le _, rfl, OwnR.nil _ _, Below.refl _ _⟩
  case round =>
    obtain ⟨k, hk, rfl, hown, hbel⟩ := hrel
    have hTk : ((eqW c e0).take k).length ≤ 8 := by have := HL.out; simp; omega
    have hbel2 : Below w.heap.size w wr := hb1.trans (((Below.refl _ _).alloc hsz _).trans (hbel.mono (by omega)))
    by_cases hlt : k < c.length
    · have hcell := keep_cell hbel2 (HC.out k hlt)
      have hx := HH.out.holds _ (mem_getD hlt)
      have T0 := Lib.hid (S.out k hlt)
      obtain ⟨⟨c0, c1⟩, f0, f1⟩ := res_cells hbel
      generalize c.getD k 0 = x at *
      have m1 : 0 ≤ x * D ∧ x * D ≤ 1000 * 9 := ⟨Int.mul_nonneg (by omega) (by omega), Int.mul_le_mul (by omega) (by omega) (by omega) (by omega)⟩
      have hwl : w1.heap.size < wr.heap.size := by have := hbel.size; rw [World.size_alloc] at this; omega
      go_wp2_with fail
      refine (compare_any x 1 N D _ (by omega) (by omega)).mono ?_
      rintro e w2 ⟨rfl, hb2⟩
      have hownW := hown.below hb2
      have hbW : Below (w1.heap.size + 1) (w1.alloc (.cells #[.int .i64 N, .int .i64 D] 23)) w2 := hbel.trans (hb2.mono (by have := hbel.size; rwa [World.size_alloc] at this))
      clear hown hbel hb2 hcell hbel2 c0 c1 f0 f1
      obtain ⟨⟨c0, c1⟩, f0, f1⟩ := res_cells hbW
      have hwl2 : w1.heap.size < w2.heap.size := by have := hbW.size; rw [World.size_alloc] at this; omega
      have hbs : w1.heap.size + 1 ≤ w2.heap.size := hwl2
      by_cases hlt2 : x * D < N
      · have hcm := Lib.hid (cmp_lt (show x * D < N * 1 by omega))
        have T : Hid ((eqW c e0).take (k + 1) = (eqW c e0).take k ++ [(x, 1)]) := Lib.hid (by rw [T0.out, O1.out x (by omega)])
        rw [hcm.out]
        go_wp2_with (at_builtin; refine wpList_append_own _ rfl _ _ 30 rfl (w1.heap.size + 1) 23 i0 (.agg #[.int .i64 0, .int .i64 0]) 2 16 Try.underlying30 hi0 hz0 hz1 hz2 rfl (by decide) _ _ _ rfl (hownW.row.alloc _) ⟨w2.heap.size, 0, none⟩ 1 1 [.int .i64 x, .int .i64 1] rfl rfl (cell2_new _ _ _ _ rfl) ?c2 ?c3 ?c4 ?c5 ?_)
        case c2 => intro u hu; simp at hu; rcases hu with rfl | rfl <;> rfl
        case c3 => unfold maxLen; omega
        case c4 => omega
        case c5 => simp; omega
        intro v' w3 hown' hgrow _
        have O3 : Hid (OwnR w3 (w1.heap.size + 1) v' ((eqW c e0).take (k + 1))) := Lib.hid (by rw [T.out]; exact OwnR.snoc (by first | rfl | simp) hown')
        have B3 := Lib.hid (below_append hbW hbs hownW.row hgrow)
        clear hown' hgrow hownW hbW c0 c1 f0 f1
        go_wp2
        go_roundw
        case rel => exact ⟨k + 1, by omega, by go_num, O3.out, B3.out⟩
        case measure => simp [intOf]; omega
      · have hcm := cmp_ge (show ¬ x * D < N * 1 by omega)
        have T : Hid ((eqW c e0).take (k + 1) = (eqW c e0).take k ++ [(N, D)]) := Lib.hid (by rw [T0.out, O2.out x (by omega), R0.out])
        generalize Lib.compareInt (x * D) (N * 1) = cv at *
        go_wp2_with (at_builtin; refine wpList_append_own _ rfl _ _ 30 rfl (w1.heap.size + 1) 23 i0 (.agg #[.int .i64 0, .int .i64 0]) 2 16 Try.underlying30 hi0 hz0 hz1 hz2 rfl (by decide) _ _ _ rfl (hownW.row.alloc _) ⟨w2.heap.size, 0, none⟩ 1 1 [.int .i64 N, .int .i64 D] rfl rfl (cell2_new _ _ _ _ rfl) ?c2 ?c3 ?c4 ?c5 ?_)
        case c2 => intro u hu; simp at hu; rcases hu with rfl | rfl <;> rfl
        case c3 => unfold maxLen; omega
        case c4 => omega
        case c5 => simp; omega
        intro v' w3 hown' hgrow _
        have O3 : Hid (OwnR w3 (w1.heap.size + 1) v' ((eqW c e0).take (k + 1))) := Lib.hid (by rw [T.out]; exact OwnR.snoc (by first | rfl | simp) hown')
        have B3 := Lib.hid (below_append hbW hbs hownW.row hgrow)
        clear hown' hgrow hownW hbW c0 c1 f0 f1
        go_wp2
        go_roundw
        case rel => exact ⟨k + 1, by omega, by go_num, O3.out, B3.out⟩
        case measure => simp [intOf]; omega
    · have e : k = c.length := by omega
      subst e
      have O : Hid (OwnR wr w.heap.size u6 (eqW c e0)) := Lib.hid (by rw [List.take_of_length_le (by rw [HL.out]; exact Nat.le_refl _)] at hown; exact hown.base (by omega))
      have B := Lib.hid hbel2
      clear hown hbel hbel2
      go_wp2
      go_ret
      exact ⟨_, rfl, O.out, B.out⟩

end Go.Proofs.Ytaakefjblldccaa
