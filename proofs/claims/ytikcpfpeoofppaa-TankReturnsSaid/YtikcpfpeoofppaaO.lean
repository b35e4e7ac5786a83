/- Contracts: what is asked (the program). -/
import Derived.Test.YtikcpfpeoofppaaN
namespace Go.Proofs.Ytikcpfpeoofppaa
open Go.RowKit

/-- Whether they are levels of the tanks. -/
def levB (t l : List Int) : Bool := decide (l.length = t.length) && (List.range t.length).all fun j => betw 0 (l.getD j 0) (t.getD j 0)
theorem levB_iff (t l : List Int) : levB t l = true ↔ Lev t l := by
  unfold levB Lev
  rw [Bool.and_eq_true, decide_eq_true_iff, List.all_eq_true]
  simp only [List.mem_range, betw_iff]

/-- The error of tanks and levels. -/
def askE (t : List Int) (ls : List (List Int)) : Int := if tvl t then (if ls.all (levB t) then 0 else 41) else 40

def padC (l : List Int) : List Value := [.int .i64 (l.getD 0 0), .int .i64 (l.getD 1 0), .int .i64 (l.getD 2 0), .int .i64 (l.getD 3 0)]
def flatP (ls : List (List Int)) : List Value := ls.flatMap padC
theorem flatP_snoc (ls : List (List Int)) (l : List Int) : flatP (ls ++ [l]) = flatP ls ++ padC l := by simp [flatP]
theorem take_snocR {ls : List (List Int)} {k : Nat} (h : k < ls.length) : ls.take (k + 1) = ls.take k ++ [ls.getD k []] := by
  rw [List.take_succ_eq_append_getElem h, List.getD_eq_getElem?_getD, List.getElem?_eq_getElem h]; rfl

theorem cell4_new {n : Nat} (w : World) (x y z u : Value) (t : TypeId) (hn : w.heap.size = n) : ∀ j v, [x, y, z, u][j]? = some v → (w.alloc (.cells #[x, y, z, u] t)).cell? ((⟨n, 0, none⟩ : Addr).add j) = some v := by
  subst hn
  intro j u hj
  match j, hj with
  | 0, hj => simp at hj; subst hj; simp [Addr.add]
  | 1, hj => simp at hj; subst hj; simp [Addr.add]
  | 2, hj => simp at hj; subst hj; simp [Addr.add]
  | 3, hj => simp at hj; subst hj; simp [Addr.add]

theorem Try.infoLev : (Try.prog.info? 66).map (fun i => (i.zero, i.size, i.bytes)) = some (some (.agg #[.int .i64 0, .int .i64 0, .int .i64 0, .int .i64 0]), 4, 32) := by kernel_rfl

set_option maxRecDepth 100000 in
set_option maxHeartbeats 2000000 in
theorem asked_any (v x : Value) (t : List Int) (ls : List (List Int)) (w : World) (hv : IntsAt w v t) (hx : RowsAt w x ls) (hls : ls.length ≤ 4) :
    Calls Try.prog 67 #[v, x] w fun e w' => ∃ ov, e = .returned (.tuple #[ov, .int .i64 (askE t ls)]) ∧ (askE t ls = 0 → w'.ownsRow w.heap.size 66 4 ov ls.length (flatP ls)) ∧ Below w.heap.size w w' := by
  have V := Lib.hid (valid_any v t w hv)
  obtain ⟨j0, hj0, hy0, hy1, hy2⟩ := info_parts Try.infoLev
  cases htv : tvl t with
  | false =>
    have A := Lib.hid (show askE t ls = 40 by unfold askE; rw [htv]; rfl)
    rw [htv] at V
    clear hv hx htv
    go_enter Try.func67, Try.ntmps67
    go_wp2_with (go_at_call 38; refine V.out.mono ?_; rintro e w' ⟨rfl, rfl⟩)
    refine bodyPost_ret (v := .tuple #[.slice none 0 0, .int .i64 40]) (by simp [results, Try.results67, go_sem]) rfl ⟨_, by rw [A.out], (fun h => by rw [A.out] at h; cases h), Below.refl _ _⟩
  | true =>
    have hT := (tvl_iff t).1 htv
    have A := Lib.hid (show askE t ls = if ls.all (levB t) then 0 else 41 by unfold askE; rw [htv]; rfl)
    rw [htv] at V
    clear htv
    obtain ⟨a, cap, rfl, hl, hq⟩ := hx
    have HV := Lib.hid hv
    clear hv
    go_enter Try.func67, Try.ntmps67
    go_wp2_with (go_at_call 38; refine V.out.mono ?_; rintro e w' ⟨rfl, rfl⟩)
    go_loopw [6, 16] (fun s i wr => ∃ k : Nat, k ≤ ls.length ∧ i = .int .i64 k ∧ Hid (∀ j, j < k → levB t (ls.getD j []) = true) ∧ wr.ownsRow w.heap.size 66 4 s k (flatP (ls.take k)) ∧ Below w.heap.size w wr) (fun _ i _ => ls.length - (intOf i).toNat)
    case atStart => exact ⟨0, Nat.zero_le _, rfl, Lib.hid (fun j hj => by omega), World.ownsRow_nil _ _ _ _, Below.refl _ _⟩
    case round =>
      obtain ⟨k, hk, rfl, H, hrow, hbel⟩ := hrel
      by_cases hlt : k < ls.length
      · obtain ⟨b, off, rfl, hc⟩ := hq (by omega)
        obtain ⟨y, hy, hI⟩ := hc k hlt
        have hyr := keep_cell hbel hy
        have C := Lib.hid (newLevels_any v y t (ls.getD k []) wr (HV.out.below hbel) (hI.below hbel) hT.hi)
        have TS := Lib.hid (take_snocR hlt)
        have N := Lib.hid (fun (h : ¬ Lev t (ls.getD k [])) => show ls.all (levB t) = false by
          rw [List.all_eq_false]
          refine ⟨ls.getD k [], ?_, fun h' => h ((levB_iff _ _).1 h')⟩
          rw [List.getD_eq_getElem?_getD, List.getElem?_eq_getElem hlt]
          exact List.getElem_mem hlt)
        have Y := Lib.hid (fun (h : Lev t (ls.getD k [])) => show ∀ j, j < k + 1 → levB t (ls.getD j []) = true from fun j hj => by
          rcases Nat.lt_succ_iff_lt_or_eq.1 hj with h' | rfl
          · exact H.out j h'
          · exact (levB_iff _ _).2 h)
        clear hc hq hy
        generalize ls.getD k [] = l0 at *
        obtain ⟨la, lcap, rfl, _⟩ := hI
        go_wp2_with fail
        refine C.out.mono ?_
        rintro e w1 ⟨⟨hL, rfl⟩ | ⟨hL, p0, p1, p2, p3, rfl⟩, hb1⟩
        · have R := Lib.hid (Y.out hL)
          have hb2 : Below w.heap.size w w1 := hbel.trans (hb1.mono hbel.size)
          have hrow1 := own_below hrow hb1
          have TF := Lib.hid (flatP_snoc (ls.take k) l0)
          clear hL Y N C hrow hyr
          unfold pad levV
          unfold padC at TF
          generalize l0.getD 0 0 = p0 at *
          generalize l0.getD 1 0 = p1 at *
          generalize l0.getD 2 0 = p2 at *
          generalize l0.getD 3 0 = p3 at *
          go_wp2_with (at_builtin; refine wpList_append_own _ rfl _ _ 82 rfl w.heap.size 66 j0 (.agg #[.int .i64 0, .int .i64 0, .int .i64 0, .int .i64 0]) 4 32 Try.underlying82 hj0 hy0 hy1 hy2 rfl (by decide) _ _ _ rfl ((hrow1.alloc _).alloc _) ⟨w1.heap.size + 1, 0, none⟩ 1 1 [.int .i64 p0, .int .i64 p1, .int .i64 p2, .int .i64 p3] rfl rfl (cell4_new _ _ _ _ _ _ (World.size_alloc _ _)) ?c2 ?c3 ?c4 ?c5 ?_)
          case c2 => intro u hu; simp at hu; rcases hu with rfl | rfl | rfl | rfl <;> rfl
          case c3 => unfold maxLen; omega
          case c4 => omega
          case c5 => have := hb2.size; simp; omega
          intro v' w3 hown' hgrow _
          have R3 : Below w.heap.size w w3 := below_append (hb2.alloc hb2.size _) (by have := hb2.size; simp; omega) (hrow1.alloc _) hgrow
          have OW : Hid (w3.ownsRow w.heap.size 66 4 v' (k + 1) (flatP (ls.take (k + 1)))) := Lib.hid (by rw [TS.out, TF.out]; exact hown')
          clear hgrow hown' hrow1
          go_wp2
          go_roundw
          case rel => exact ⟨k + 1, by omega, by go_num, R, OW.out, R3⟩
          case measure => simp [intOf]; omega
        · have R := Lib.hid (show askE t ls = 41 by rw [A.out, N.out hL]; rfl)
          have hb2 : Below w.heap.size w w1 := hbel.trans (hb1.mono hbel.size)
          clear hL Y N C
          go_wp2
          refine bodyPost_ret (v := .tuple #[.slice none 0 0, .int .i64 41]) (by simp [results, Try.results67, go_sem]) rfl ⟨_, by rw [R.out], (fun h => by rw [R.out] at h; cases h), hb2.alloc hb2.size _⟩
      · obtain rfl : k = ls.length := by omega
        have A := Lib.hid (show askE t ls = 0 by
          rw [A.out, if_pos]
          rw [List.all_eq_true]
          intro l hl
          obtain ⟨i, hi, rfl⟩ := List.getElem_of_mem hl
          have := H.out i hi
          rwa [List.getD_eq_getElem?_getD, List.getElem?_eq_getElem hi] at this)
        rw [List.take_length] at hrow
        have R := Lib.hid hrow
        clear hrow
        go_wp2
        refine bodyPost_ret (v := .tuple #[u6, .int .i64 0]) (by simp [results, Try.results67, go_sem]) rfl ⟨_, by rw [A.out], fun _ => R.out, hbel⟩

end Go.Proofs.Ytikcpfpeoofppaa
