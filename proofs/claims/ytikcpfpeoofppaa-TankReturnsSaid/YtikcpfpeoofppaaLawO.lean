/- Texts of this claim, laid together: Ar, As, At, Aw, LawN, Az, LawO. -/
import Derived.Test.YtikcpfpeoofppaaAq
import Derived.Test.YtikcpfpeoofppaaRd
import Derived.Test.YtikcpfpeoofppaaGw
import Derived.Test.YtikcpfpeoofppaaM
import Derived.Test.YtikcpfpeoofppaaWy
import Derived.Test.YtikcpfpeoofppaaSf
import Derived.Test.YtikcpfpeoofppaaLawA
import Derived.Deep.RegionHeld3
import Derived.Test.YtikcpfpeoofppaaH
import Derived.Shelf.SlSortCmp.Whole1
import Derived.Test.YtikcpfpeoofppaaShelf

/- Contract: all levels that come about (the reference). -/
namespace Go.Proofs.Ytikcpfpeoofppaa
open Go.RowKit

def allE (t : List Int) : Int := if tvl t then 0 else 40
def allL (t : List Int) : List (List Int) := if tvl t then outN t (full t (zerosL t)) (sizeR t) else []
def GivesAll (t : List Int) (w : World) (e : Ending) (w' : World) : Prop := ∃ ov, e = .returned (.tuple #[ov, .int .i64 (allE t)]) ∧ RowsO w' w.heap.size ov (allL t) ∧ Below w.heap.size w w'
theorem Try.infoInts : (Try.prog.info? 29).map (fun i => (i.zero, i.size, i.bytes)) = some (some (.slice none 0 0), 1, 24) := by kernel_rfl
theorem RowsO.lower {w : World} {B B' : Nat} {v : Value} {L : List (List Int)} (h : RowsO w B v L) (hB : B' ≤ B) : RowsO w B' v L := by
  obtain ⟨H, h1, h2, h3⟩ := h
  exact ⟨H, h1, own_lower h2 hB, h3⟩

set_option maxRecDepth 100000 in
set_option maxHeartbeats 4000000 in
theorem rAll_any (v : Value) (t : List Int) (w : World) (hv : IntsAt w v t) :
    Calls Try.prog 48 #[v] w (GivesAll t w) := by
  have V := Lib.hid hv
  have RV := Lib.hid (rValid_any v t w hv)
  cases htv : tvl t with
  | false =>
    have AE := Lib.hid (show allE t = 40 by unfold allE; rw [htv]; rfl)
    have AL := Lib.hid (show allL t = [] by unfold allL; rw [htv]; rfl)
    rw [htv] at RV
    obtain ⟨va, vc, rfl, hl, _⟩ := hv
    clear htv
    go_enter Try.func48, Try.ntmps48
    go_wp2_with fail
    refine RV.out.mono ?_
    rintro e w' ⟨rfl, rfl⟩
    go_wp2
    go_ret2
    exact ⟨_, by rw [AE.out]; rfl, by rw [AL.out]; exact RowsO.nil _ _, Below.refl _ _⟩
  | true =>
    have AE := Lib.hid (show allE t = 0 by unfold allE; rw [htv]; rfl)
    have AL := Lib.hid (show allL t = outN t (full t (zerosL t)) (sizeR t) by unfold allL; rw [htv]; rfl)
    rw [htv] at RV
    have ht := (tvl_iff t).1 htv
    have hlo := ht.lo
    have hhi := ht.hi
    have hz := zeros_lev ht
    have EM := Lib.hid (rEmpty_any v t w hv (by omega))
    obtain ⟨va, vc, rfl, hl, _⟩ := hv
    have HT := Lib.hid ht
    have HZ := Lib.hid hz
    obtain ⟨k0, hk0, hb0, hb1, hb2⟩ := info_parts Try.infoBool
    obtain ⟨j0, hj0, hy0, hy1, hy2⟩ := info_parts Try.infoInts
    have hN := sizeR_le ht
    have HG := Lib.hid (full_good ht hz)
    clear htv ht hz
    go_enter Try.func48, Try.ntmps48
    go_wp2_with fail
    refine RV.out.mono ?_
    rintro e w' ⟨rfl, rfl⟩
    go_wp2_with fail
    refine EM.out.mono ?_
    rintro e w1 ⟨ev, rfl, hev, hb1', _⟩
    have GR := Lib.hid (rGrow_any _ ev t (zerosL t) w1 (V.out.below hb1') hev HT.out HZ.out)
    have HB1 := Lib.hid hb1'
    clear hev hb1' EM
    go_wp2_with fail
    refine GR.out.mono ?_
    rintro e w2 ⟨Bx, go, gcap, gf, gb, rfl, hT, hb2'⟩
    have HB2 := Lib.hid (HB1.out.trans (hb2'.mono HB1.out.size))
    have TR := Lib.hid hT
    obtain ⟨c0, c1, c2, _⟩ := hT.cells
    have ST := Lib.hid (fun n (hn : n < sizeR t) k (hk : k ≤ (full t (zerosL t)).length) => seen_atN hn (full t (zerosL t)) k hk (fun e he => numR_lt (HG.out.lev e he)))
    have OL := Lib.hid (ordL_len t (full t (zerosL t)))
    rw [OL.out] at c0
    clear hT hb2' GR
    generalize full t (zerosL t) = es at *
    generalize hNN : sizeR t = N at *
    have HNN := Lib.hid hNN
    clear hNN
    go_wp2_with (at_make; refine wpList_make_full _ rfl _ _ 100 rfl w2.heap.size 4 k0 (.bool false) 1 Try.underlying100 hk0 hb0 hb1 .i64 .i64 _ _ N rfl rfl rfl rfl (by rw [hb2]; omega) (by unfold maxLen; omega) (Nat.le_refl _) ?_; intro w3 hown3 hgrow3; rw [zB_vals] at hown3)
    have hb3 : Below w2.heap.size w2 w3 := (Below.refl _ _).grown hgrow3 (Nat.le_refl _) (fun k e => by cases e)
    have SL := Lib.hid (fun es' => (seenL_len t es').trans HNN.out)
    have S0 := Lib.hid (show w3.ownsRow w2.heap.size 4 1 (.slice (some ⟨w2.heap.size, 0, none⟩) N N) N ((seenL t (es.take 0)).map Value.bool) from by
      have e : seenL t (es.take 0) = List.replicate N false := by rw [List.take_zero, ← HNN.out]; rfl
      rw [e]
      exact hown3)
    have SN := Lib.hid (fun k (hk : k < es.length) => show seenL t (es.take (k + 1)) = (seenL t (es.take k)).set (numR t (es.getD k noE).1) true from by
      rw [List.take_succ_eq_append_getElem hk, seen_new]
      simp [List.getD_eq_getElem?_getD, hk])
    have NL := Lib.hid (fun k (hk : k < es.length) => show numR t (es.getD k noE).1 < N from by
      rw [← HNN.out]
      exact numR_lt (HG.out.lev _ (getD_mem hk _)))
    have OA := Lib.hid (fun k (hk : k < es.length) => (TR.out.ord (i := k) (by rw [OL.out]; exact hk)).trans (by rw [ordL_at hk]))
    have HB3 := Lib.hid hb3
    have hes : es.length ≤ N := by rw [← HNN.out]; exact good_len HG.out
    clear hown3 hgrow3 hb3
    go_wp2
    go_loopw [6] (fun iv wr => ∃ k : Nat, k ≤ es.length ∧ iv = .int .i64 k ∧ wr.ownsRow w2.heap.size 4 1 (.slice (some ⟨w2.heap.size, 0, none⟩) N N) N ((seenL t (es.take k)).map Value.bool) ∧ Below w2.heap.size w2 wr) (fun iv _ => es.length - (intOf iv).toNat)
    case atStart => exact ⟨0, Nat.zero_le _, rfl, S0.out, HB3.out⟩
    case round =>
      obtain ⟨k, hk, rfl, hown, hbel⟩ := hrel
      have d0 := keep_cell hbel c0
      by_cases hlt : k < es.length
      · have hlt' : (k : Int) < (es.length : Int) := by omega
        have o0 := keep_cell hbel (OA.out k hlt)
        have hn := NL.out k hlt
        have SS := Lib.hid (SN.out k hlt)
        generalize numR t (es.getD k noE).1 = n at *
        have hn' : (n : Int) < (N : Int) := by omega
        have s0 := (hown.cellAt n (by omega)).trans (show _ = some (Value.bool ((seenL t (es.take k)).getD n false)) by
          have : n < (seenL t (es.take k)).length := by rw [SL.out]; exact hn
          simp [List.getD_eq_getElem?_getD, this])
        have f0 := hown.frozenAt n
        have OS := (hown.stored n (.bool true)).1
        rw [← List.map_set, ← SS.out] at OS
        have OSH := Lib.hid OS
        have HBX := Lib.hid (hbel.setCell (p := ⟨w2.heap.size, n, none⟩) (Nat.le_refl _) (.bool true))
        clear OS hown hbel S0
        generalize (seenL t (es.take k)).getD n false = bv at *
        go_wp2
        go_roundw
        case rel => exact ⟨k + 1, by omega, by go_num, OSH.out, HBX.out⟩
        case measure => simp [intOf]; omega
      · have ek : k = es.length := by omega
        subst ek
        have hlt' : ¬ ((es.length : Nat) : Int) < (es.length : Int) := by omega
        rw [List.take_length] at hown
        have CM := Lib.hid (fun n (hn : n < N) => (hown.cellAt n (by omega)).trans (show _ = some (Value.bool (atN t es n).isSome) by
          have h1 : n < (seenL t es).length := by rw [SL.out]; exact hn
          have h2 := ST.out n hn es.length (Nat.le_refl _)
          rw [List.take_length] at h2
          rw [← h2]
          simp [List.getD_eq_getElem?_getD, h1]))
        have HBL := Lib.hid hbel
        clear hown hbel S0 SN NL OA
        obtain ⟨W4, rfl⟩ : ∃ W4, W4 = wr := ⟨_, rfl⟩
        go_wp2
        go_loopw [7, 8] (fun ov iv wq => ∃ n : Nat, n ≤ N ∧ iv = .int .i64 n ∧ RowsO wq W4.heap.size ov (outN t es n) ∧ Below W4.heap.size W4 wq) (fun _ iv _ => N - (intOf iv).toNat)
        case atStart => exact ⟨0, Nat.zero_le _, rfl, RowsO.nil _ _, Below.refl _ _⟩
        case round =>
          obtain ⟨n, hn, rfl, hrow, hbq⟩ := hrel
          by_cases hnl : n < N
          · have hnl' : (n : Int) < (N : Int) := by omega
            have cm := keep_cell hbq (CM.out n hnl)
            cases hat : atN t es n with
            | none =>
              rw [hat] at cm
              have ON := Lib.hid (outN_none hat)
              have RH := Lib.hid hrow
              have BH := Lib.hid hbq
              clear hrow hbq hat
              go_wp2
              go_roundw
              case rel => exact ⟨n + 1, by omega, by go_num, by rw [ON.out]; exact RH.out, BH.out⟩
              case measure => simp [intOf]; omega
            | some l =>
              rw [hat] at cm
              obtain ⟨⟨e, he, hel⟩, hnn⟩ := atN_some hat
              have hll : Lev t l := hel ▸ HG.out.lev e he
              have ON := Lib.hid (outN_some hat)
              have LV := Lib.hid (rLevels_own _ t l wr (V.out.below (HB2.out.trans ((HBL.out.trans (hbq.mono HBL.out.size)).mono HB2.out.size))) HT.out hll)
              rw [hnn] at LV
              have RH := Lib.hid hrow
              have BH := Lib.hid hbq
              have hlen := hll.1
              have HLN := Lib.hid hlen
              clear hrow hbq hat hll hel he hnn
              go_wp2_with fail
              refine LV.out.mono ?_
              rintro e' w6 ⟨rfl, hO, hb6⟩
              obtain ⟨H, h1, h2, h3⟩ := RH.out.below hb6
              have hx : HeadO w6 (.slice (some ⟨wr.heap.size, 0, none⟩) t.length t.length) l := ⟨wr.heap.size, t.length, by rw [HLN.out], own_lower hO.row (Nat.zero_le _)⟩
              have hb7 : Below W4.heap.size W4 w6 := BH.out.trans (hb6.mono BH.out.size)
              have hbs := hb7.size
              have HX := Lib.hid hx
              have ol : (outN t es n).length ≤ 28561 := by
                have : (outN t es n).length ≤ n := by unfold outN; exact Nat.le_trans (List.length_filterMap_le _ _) (by simp)
                omega
              clear hO hb6 hx RH
              go_wp2_with (at_builtin; refine wpList_append_own _ rfl _ _ 58 rfl W4.heap.size 29 j0 (.slice none 0 0) 1 24 Try.underlying58 hj0 hy0 hy1 hy2 rfl (by decide) _ _ _ rfl (h2.alloc _) ⟨w6.heap.size, 0, none⟩ 1 1 [.slice (some ⟨wr.heap.size, 0, none⟩) t.length t.length] rfl rfl (cell_one_new _ _ _) (by simp [Value.oneCell']) (by unfold maxLen; omega) (by omega) (by simp; omega) ?_)
              intro v' w7 hown' hgrow _
              have RN := Lib.hid (show RowsO w7 W4.heap.size v' (outN t es (n + 1)) by rw [ON.out]; exact RowsO.snoc h1 h2 h3 HX.out hown' hgrow)
              have BN := Lib.hid (below_append hb7 hbs h2 hgrow)
              clear hown' hgrow h1 h2 h3 hb7
              go_wp2
              go_roundw
              case rel => exact ⟨n + 1, by omega, by go_num, RN.out, BN.out⟩
              case measure => simp [intOf]; omega
          · have en : n = N := by omega
            subst en
            have hnl' : ¬ (n : Int) < (n : Int) := by omega
            have B2 := HB2.out
            have RH := Lib.hid (hrow.lower (B' := w.heap.size) (by have := B2.size; have := HBL.out.size; omega))
            have BH := Lib.hid (HB2.out.trans ((HBL.out.trans (hbq.mono HBL.out.size)).mono HB2.out.size))
            clear hrow hbq B2
            go_wp2
            go_ret2
            exact ⟨_, by rw [AE.out]; rfl, by rw [AL.out]; exact RH.out, BH.out⟩

end Go.Proofs.Ytikcpfpeoofppaa

/- Contract: a list out of levels (the program), as an owned row. -/
namespace Go.Proofs.Ytikcpfpeoofppaa
open Go.RowKit

set_option maxRecDepth 100000 in
set_option maxHeartbeats 1000000 in
theorem clone_own (v : Value) (l : List Int) (w : World) (hv : IntsAt w v l) (h0 : 0 < l.length) (h4 : l.length ≤ 4) :
    Calls Try.prog 92 #[v] w fun e w' => ∃ x, e = .returned x ∧ HeadO w' x l ∧ Below w.heap.size w w' := by
  obtain ⟨lb, lo, lc, rfl, hic⟩ := ints_cell hv h0
  have NW := Lib.hid (ints_news hic (.cells #[] 3))
  obtain ⟨j0, hj0, hy0, hy1, hy2⟩ := info_parts Try.infoInt
  have hown0 := World.ownsRow_made (base := w.heap.size) (e := 3) (size := 1) w #[] 0 (Nat.le_refl _) (by decide) rfl
  have hnil : ∀ W, (binOp .eql 29 (.slice (some ⟨lb, lo, none⟩) l.length lc) (.slice none 0 0)).run Try.prog W = .ok (.bool false) W := fun W => Lib.run_eql_slice_some_nil W _ _ _ Try.underlying29
  clear hic hv
  go_enter Try.func92, Try.ntmps92
  go_wp2_with (at_builtin; go_loud (refine wpList_append_own _ rfl (.tmp 5) (.tmp 6) 29 rfl w.heap.size 3 j0 (.int .i64 0) 1 8 Try.underlying29 hj0 hy0 hy1 hy2 rfl (by decide) _ _ _ rfl hown0 ⟨lb, lo, none⟩ l.length lc (l.map (Value.int .i64)) rfl (by simp) NW.out (int_vals_one l) (by unfold maxLen; omega) (by omega) (by simp) ?_))
  intro ov w2 hov0 hgr0 _
  have hb2 := clone_below rfl hgr0
  obtain ⟨g, cap, rfl, O, hg⟩ := own_form (by simpa using hov0) h0
  have HX := Lib.hid (show HeadO w2 (.slice (some ⟨g, 0, none⟩) l.length cap) l from ⟨g, cap, rfl, own_lower O.row (Nat.zero_le _)⟩)
  clear hov0 hgr0 hown0 NW O
  go_wp2
  go_ret
  exact ⟨_, rfl, HX.out, hb2⟩

set_option maxHeartbeats 1000000 in
theorem list_own (v : Value) (t l : List Int) (w : World) (hv : IntsAt w v t) (h2 : 2 ≤ t.length) (h4 : t.length ≤ 4) (hl : l.length = t.length) :
    Calls Try.prog 81 #[pad l, v] w fun e w' => ∃ x, e = .returned x ∧ HeadO w' x l ∧ Below w.heap.size w w' := by
  obtain ⟨a, cap, rfl, _⟩ := hv
  have hB0 := (Below.refl w.heap.size w).alloc (Nat.le_refl _) (.cells #[.int .i64 (l.getD 0 0), .int .i64 (l.getD 1 0), .int .i64 (l.getD 2 0), .int .i64 (l.getD 3 0)] 66)
  have hI : IntsAt (w.alloc (.cells #[.int .i64 (l.getD 0 0), .int .i64 (l.getD 1 0), .int .i64 (l.getD 2 0), .int .i64 (l.getD 3 0)] 66)) (.slice (some ⟨w.heap.size, 0, none⟩) t.length 4) l := by
    rw [← hl]
    refine ⟨some ⟨w.heap.size, 0, none⟩, 4, rfl, by omega, fun _ => ⟨w.heap.size, 0, rfl, fun j hj => ?_⟩⟩
    have hc : j = 0 ∨ j = 1 ∨ j = 2 ∨ j = 3 := by omega
    have hb := World.alloc_heap_new w (.cells #[.int .i64 (l.getD 0 0), .int .i64 (l.getD 1 0), .int .i64 (l.getD 2 0), .int .i64 (l.getD 3 0)] 66)
    rcases hc with rfl | rfl | rfl | rfl <;> (simp only [World.cell?, hb]; rfl)
  have C := Lib.hid (clone_own _ l _ hI (by omega) (by omega))
  have k1 : (0 : Int) ≤ (t.length : Int) := by omega
  have k2 : (t.length : Int) ≤ 4 := by omega
  clear hI hl
  unfold pad levV
  generalize l.getD 0 0 = x0 at *
  generalize l.getD 1 0 = x1 at *
  generalize l.getD 2 0 = x2 at *
  generalize l.getD 3 0 = x3 at *
  go_enter Try.func81, Try.ntmps81
  go_wp2_with fail
  refine C.out.mono ?_
  rintro e w1 ⟨ov, rfl, hov, hb1⟩
  have O := Lib.hid hov
  have HB := Lib.hid (hB0.trans (hb1.mono (by simp)))
  clear hov
  go_wp2
  go_ret
  exact ⟨_, rfl, O.out, HB.out⟩

end Go.Proofs.Ytikcpfpeoofppaa

/- Contract: all levels that come about (the program), out of a contract of the sort. -/
namespace Go.Proofs.Ytikcpfpeoofppaa
open Go.RowKit

/-- What is asked of the sort. -/
def SortOk : Prop := ∀ (v : Value) (L : List (List Int)) (w : World) (B : Nat), 0 < L.length → RowsO w B v L → (∀ l ∈ L, l.length ≤ 1000) → L.length ≤ 100000 →
  Calls Try.prog 82 #[v, .func (.func 83) #[] #[]] w fun e w' => e = .returned (.tuple #[]) ∧ ∃ S : List (List Int), S.Perm L ∧ S.Pairwise (fun a b => ¬ cmpI b a < 0) ∧ RowsO w' B v S ∧ Below B w w'

theorem never_any (l : List Int) (w : World) :
    Calls Try.prog 80 #[pad l] w fun e w' => e = .returned (.bool false) ∧ Below w.heap.size w w' := by
  unfold pad levV
  generalize l.getD 0 0 = x0
  generalize l.getD 1 0 = x1
  generalize l.getD 2 0 = x2
  generalize l.getD 3 0 = x3
  go_enter Try.func80, Try.ntmps80
  go_wp2
  go_ret
  exact ⟨rfl, by first | exact Below.refl _ _ | exact (Below.refl _ _).alloc (Nat.le_refl _) _⟩

set_option maxRecDepth 100000 in
set_option maxHeartbeats 4000000 in
theorem tAll_of (HS : SortOk) (v : Value) (t : List Int) (w : World) (hv : IntsAt w v t) :
    Calls Try.prog 47 #[v] w (GivesAll t w) := by
  have V := Lib.hid hv
  have RV := Lib.hid (valid_any v t w hv)
  cases htv : tvl t with
  | false =>
    have AE := Lib.hid (show allE t = 40 by unfold allE; rw [htv]; rfl)
    have AL := Lib.hid (show allL t = [] by unfold allL; rw [htv]; rfl)
    rw [htv] at RV
    obtain ⟨va, vc, rfl, hl, _⟩ := hv
    clear htv HS
    go_enter Try.func47, Try.ntmps47
    go_wp2_with fail
    refine RV.out.mono ?_
    rintro e w' ⟨rfl, rfl⟩
    go_wp2
    go_ret2
    exact ⟨_, by rw [AE.out]; rfl, by rw [AL.out]; exact RowsO.nil _ _, Below.refl _ _⟩
  | true =>
    have AE := Lib.hid (show allE t = 0 by unfold allE; rw [htv]; rfl)
    have AL := Lib.hid (show allL t = outN t (full t (zerosL t)) (sizeR t) by unfold allL; rw [htv]; rfl)
    rw [htv] at RV
    have ht := (tvl_iff t).1 htv
    have hlo := ht.lo
    have hhi := ht.hi
    have hz := zeros_lev ht
    have HSH := Lib.hid HS
    have NS := Lib.hid (newSearch_any (fun _ => false) 80 #[] (enters_of Try.func80 (by kernel_rfl) rfl) v t (zerosL t) w hv ht hz (fun W l' _ _ => never_any l' W))
    have HP := Lib.hid (zeros_pad t)
    rw [HP.out] at NS
    obtain ⟨va, vc, rfl, hl, _⟩ := hv
    obtain ⟨j0, hj0, hy0, hy1, hy2⟩ := info_parts Try.infoInts
    have HG := Lib.hid (full_good ht hz)
    have hes := good_len HG.out
    have hN := sizeR_le ht
    have SO := Lib.hid (fun S => sorted_out (S := S) HG.out)
    clear htv ht hz HS
    go_enter Try.func47, Try.ntmps47
    go_wp2_with fail
    refine RV.out.mono ?_
    rintro e w' ⟨rfl, rfl⟩
    go_wp2_with fail
    refine NS.out.mono ?_
    rintro e w2 ⟨Bs, M, lv, n, k, q, b, rfl, c0, c1, c2, hlev, _, _, hfo, hb2⟩
    obtain ⟨rfl, hn⟩ : b = false ∧ n = (full t (zerosL t)).length := by
      rcases hfo with ⟨_, i, _, _, h, _⟩ | ⟨h1, h2, _⟩
      · cases h
      · exact ⟨h1, h2⟩
    rw [hn, List.take_length] at hlev
    generalize full t (zerosL t) = es at *
    obtain ⟨la, lcap, rfl, hlc, hlq⟩ := hlev
    have hml : (es.map fun e : Ent => e.1).length = es.length := by simp
    rw [hml] at c1 hlc hlq
    have he0 : 0 < es.length := by
      obtain ⟨r, hr⟩ := HG.out.head
      rw [hr]; simp
    obtain ⟨lb, rfl, hcells⟩ := hlq he0
    have LC := Lib.hid hcells
    have HB2 := Lib.hid hb2
    have TK := Lib.hid (fun k (hk : k < es.length) => show (es.take (k + 1)).map (fun e : Ent => e.1) = (es.take k).map (fun e : Ent => e.1) ++ [(es.getD k noE).1] from by
      rw [List.take_succ_eq_append_getElem hk, List.map_append]
      simp [List.getD_eq_getElem?_getD, hk])
    clear hfo hb2 hlq hcells NS c0 c2
    go_wp2
    go_loopw [6, 23] (fun ov iv wq => ∃ k : Nat, k ≤ es.length ∧ iv = .int .i64 k ∧ RowsO wq w2.heap.size ov ((es.take k).map fun e : Ent => e.1) ∧ Below w2.heap.size w2 wq) (fun _ iv _ => es.length - (intOf iv).toNat)
    case atStart => exact ⟨0, Nat.zero_le _, rfl, RowsO.nil _ _, Below.refl _ _⟩
    case round =>
      obtain ⟨k, hk, rfl, hrow, hbq⟩ := hrel
      by_cases hlt : k < es.length
      · have hlt' : (k : Int) < (es.length : Int) := by omega
        have hlev : Lev t (es.getD k noE).1 := HG.out.lev _ (getD_mem hlt _)
        have hll := hlev.1
        have TKK := Lib.hid (TK.out k hlt)
        have l0 := keep_cell hbq (LC.out k 0 hlt (by omega))
        have l1 := keep_cell hbq (LC.out k 1 hlt (by omega))
        have l2 := keep_cell hbq (LC.out k 2 hlt (by omega))
        have l3 := keep_cell hbq (LC.out k 3 hlt (by omega))
        rw [map_getD] at l0 l1 l2 l3
        have hbw := HB2.out.trans (hbq.mono HB2.out.size)
        have LO := Lib.hid (fun W (hb : Below wr.heap.size wr W) => list_own (.slice va t.length vc) t (es.getD k noE).1 W (V.out.below (hbw.trans (hb.mono hbw.size))) hlo hhi hll)
        have RH := Lib.hid hrow
        have BH := Lib.hid hbq
        have hok : ((es.take k).map fun e : Ent => e.1).length = k := by simp; omega
        have HOK := Lib.hid hok
        unfold pad levV at LO
        clear hrow hbq hlev hll hbw hok
        generalize (es.getD k noE).1 = l at *
        generalize l.getD 0 0 = x0 at *
        generalize l.getD 1 0 = x1 at *
        generalize l.getD 2 0 = x2 at *
        generalize l.getD 3 0 = x3 at *
        rw [show k * 4 + 0 = k * 4 by omega] at l0
        go_wp2_with fail
        refine (LO.out _ ((Below.refl _ _).alloc (Nat.le_refl _) _)).mono ?_
        rintro e w6 ⟨x, rfl, hx, hb6⟩
        have hb6' : Below wr.heap.size wr w6 := ((Below.refl _ wr).alloc (Nat.le_refl _) _).trans (hb6.mono (by simp))
        obtain ⟨H, h1, h2, h3⟩ := RH.out.below hb6'
        rw [HOK.out] at h2
        have hb7 : Below w2.heap.size w2 w6 := BH.out.trans (hb6'.mono BH.out.size)
        have hbs := hb7.size
        have HX := Lib.hid hx
        obtain ⟨xb, xcap, rfl, _⟩ := hx
        clear hb6 hb6' RH l0 l1 l2 l3
        go_wp2_with (at_builtin; refine wpList_append_own _ rfl _ _ 58 rfl w2.heap.size 29 j0 (.slice none 0 0) 1 24 Try.underlying58 hj0 hy0 hy1 hy2 rfl (by decide) _ _ _ rfl (h2.alloc _) ⟨w6.heap.size, 0, none⟩ 1 1 [.slice (some ⟨xb, 0, none⟩) l.length xcap] rfl rfl (cell_one_new _ _ _) (by simp [Value.oneCell']) (by unfold maxLen; omega) (by omega) (by simp; omega) ?_)
        intro v' w7 hown' hgrow _
        have RN := Lib.hid (show RowsO w7 w2.heap.size v' ((es.take (k + 1)).map fun e : Ent => e.1) by rw [TKK.out]; exact RowsO.snoc h1 (by rw [HOK.out]; exact h2) h3 HX.out (by rw [HOK.out]; exact hown') hgrow)
        have BN := Lib.hid (below_append hb7 hbs h2 hgrow)
        clear hown' hgrow h1 h2 h3 hb7
        go_wp2
        go_roundw
        case rel => exact ⟨k + 1, by omega, by go_num, RN.out, BN.out⟩
        case measure => simp [intOf]; omega
      · have ek : k = es.length := by omega
        subst ek
        have hlt' : ¬ ((es.length : Nat) : Int) < (es.length : Int) := by omega
        rw [List.take_length] at hrow
        have ST := Lib.hid (HSH.out _ _ wr w2.heap.size (by rw [hml]; exact he0) hrow (fun l hl => by
          obtain ⟨e, he, rfl⟩ := List.mem_map.1 hl
          have := (HG.out.lev e he).1
          omega) (by rw [hml]; omega))
        have BH := Lib.hid hbq
        clear hrow hbq
        go_wp2_with fail
        refine ST.out.mono ?_
        rintro e w8 ⟨rfl, S, hp, hs, hro, hb8⟩
        have e1 := SO.out S hp hs
        have RH := Lib.hid (show RowsO w8 w.heap.size u6 (allL t) by rw [AL.out, ← e1]; exact hro.lower HB2.out.size)
        have BX := Lib.hid (HB2.out.trans ((BH.out.trans hb8).mono HB2.out.size))
        clear hp hs hro hb8 e1
        go_wp2
        go_ret2
        exact ⟨_, by rw [AE.out]; rfl, RH.out, BX.out⟩

end Go.Proofs.Ytikcpfpeoofppaa

/- Contracts: the same tables; how many levels come about. -/
namespace Go.Proofs.Ytikcpfpeoofppaa
open Go.RowKit

set_option maxRecDepth 100000 in
set_option maxHeartbeats 2000000 in
theorem sameTables_any (v x : Value) (L : List (List Int)) (w : World) (hv : RowsAt w v L) (hx : RowsAt w x L) (hL : L.length ≤ 100000) :
    Calls Try.prog 51 #[v, x] w fun e w' => e = .returned (.bool true) ∧ Below w.heap.size w w' := by
  obtain ⟨a, cap, rfl, _, hq⟩ := hv
  obtain ⟨a2, cap2, rfl, _, hq2⟩ := hx
  have Q := Lib.hid hq
  have Q2 := Lib.hid hq2
  clear hq hq2
  go_enter Try.func51, Try.ntmps51
  go_wp2
  go_loopw [5] (fun iv wr => ∃ k : Nat, k ≤ L.length ∧ iv = .int .i64 k ∧ Below w.heap.size w wr) (fun iv _ => L.length - (intOf iv).toNat)
  case atStart => exact ⟨0, Nat.zero_le _, rfl, Below.refl _ _⟩
  case round =>
    obtain ⟨k, hk, rfl, hbel⟩ := hrel
    by_cases hlt : k < L.length
    · have hlt' : (k : Int) < (L.length : Int) := by omega
      obtain ⟨b, off, rfl, hc⟩ := Q.out (by omega)
      obtain ⟨b2, off2, rfl, hc2⟩ := Q2.out (by omega)
      obtain ⟨r, hr, hri⟩ := hc k hlt
      obtain ⟨s, hs, hsi⟩ := hc2 k hlt
      have x0 := keep_cell hbel hr
      have y0 := keep_cell hbel hs
      have r1 : ∀ W, KB wr W → W.cell? ⟨b, off + k, none⟩ = some r := fun W h => keep_cell h x0
      have r2 : ∀ W, KB wr W → W.cell? ⟨b2, off2 + k, none⟩ = some s := fun W h => keep_cell h y0
      have HBL := Lib.hid hbel
      have SI := Lib.hid (fun W (hW : KB wr W) => (sameInts_any r s (L.getD k []) W ((hri.below hbel).below hW) ((hsi.below hbel).below hW)).mono (R' := fun e w' => e = .returned (.bool true) ∧ KB wr w') (fun e w' ⟨h5, h6⟩ => ⟨h5, KB.call hW h6⟩))
      clear hc hc2 hr hs hri hsi x0 y0 hbel
      go_upto_region 6 with fail
      go_region_held3 (fun W => KB wr W) (first | exact KB.drew (KB.refl _) | assumption | (apply KB.drew; assumption)) (first
        | (go_at_call 40; (with_reducible refine (SI.out _ ?_).mono ?_); (first | exact KB.drew (KB.refl _) | exact KB.refl _ | assumption | (apply KB.drew; assumption)); rintro e w8 ⟨rfl, k8⟩)
        | fail)
      all_goals go_wp2
      all_goals go_roundw
      all_goals (first | (case rel => exact ⟨k + 1, by omega, by go_num, HBL.out.trans (Below.mono k8 HBL.out.size)⟩) | (case measure => simp [intOf]; omega) | skip)
    · have hlt' : ¬ (k : Int) < (L.length : Int) := by omega
      have HBL := Lib.hid hbel
      clear hbel
      go_wp2
      go_ret
      exact ⟨rfl, HBL.out⟩

theorem outN_len (t : List Int) (es : List Ent) (k : Nat) : (outN t es k).length ≤ k := by unfold outN; exact Nat.le_trans (List.length_filterMap_le _ _) (by simp)
theorem allL_len (t : List Int) : (allL t).length ≤ 28561 := by
  unfold allL
  cases h : tvl t with
  | true =>
    rw [if_pos rfl]
    exact Nat.le_trans (outN_len _ _ _) (sizeR_le ((tvl_iff t).1 h))
  | false => simp
theorem allL_rows (t : List Int) : ∀ l ∈ allL t, l.length ≤ 1000 := fun l hl => by
  unfold allL at hl
  cases h : tvl t with
  | false => rw [h] at hl; simp at hl
  | true =>
    rw [h, if_pos rfl] at hl
    unfold outN at hl
    obtain ⟨n, _, hn⟩ := List.mem_filterMap.1 hl
    obtain ⟨⟨e, he, h1⟩, _⟩ := atN_some hn
    have ht := (tvl_iff t).1 h
    have := ((full_good ht (zeros_lev ht)).lev e he).1
    have := ht.hi
    rw [← h1]
    omega
theorem GivesAll.rows {t : List Int} {w w' : World} {ov : Value} (h : RowsO w' w.heap.size ov (allL t)) : RowsAt w' ov (allL t) := h.rows (by have := allL_len t; omega) (allL_rows t)

set_option maxHeartbeats 2000000 in
theorem tCount_of (HS : SortOk) (v : Value) (t : List Int) (w : World) (hv : IntsAt w v t) :
    Calls Try.prog 49 #[v] w fun e w' => e = .returned (.tuple #[.int .i64 (allL t).length, .int .i64 (allE t)]) ∧ Below w.heap.size w w' := by
  have A := Lib.hid (tAll_of HS v t w hv)
  obtain ⟨va, vc, rfl, _, _⟩ := hv
  unfold GivesAll at A
  clear HS
  go_enter Try.func49, Try.ntmps49
  go_wp2_with fail
  refine A.out.mono ?_
  rintro e w1 ⟨ov, rfl, ho, hb⟩
  have HB := Lib.hid hb
  obtain ⟨a, cap, rfl, _⟩ := GivesAll.rows ho
  clear ho hb
  go_wp2
  go_ret2
  exact ⟨rfl, HB.out⟩

set_option maxHeartbeats 2000000 in
theorem rCount_any (v : Value) (t : List Int) (w : World) (hv : IntsAt w v t) :
    Calls Try.prog 50 #[v] w fun e w' => e = .returned (.tuple #[.int .i64 (allL t).length, .int .i64 (allE t)]) ∧ Below w.heap.size w w' := by
  have A := Lib.hid (rAll_any v t w hv)
  obtain ⟨va, vc, rfl, _, _⟩ := hv
  unfold GivesAll at A
  go_enter Try.func50, Try.ntmps50
  go_wp2_with fail
  refine A.out.mono ?_
  rintro e w1 ⟨ov, rfl, ho, hb⟩
  have HB := Lib.hid hb
  obtain ⟨a, cap, rfl, _⟩ := GivesAll.rows ho
  clear ho hb
  go_wp2
  go_ret2
  exact ⟨rfl, HB.out⟩

end Go.Proofs.Ytikcpfpeoofppaa

/- The law TankAll: the walk. -/
namespace Go.Proofs.Ytikcpfpeoofppaa
open Go.RowKit

set_option maxRecDepth 100000 in
set_option maxHeartbeats 2000000 in
theorem TankAll_of (HS : SortOk) (v : Value) (t : List Int) (w : World) (hv : IntsAt w v t) :
    Calls Try.prog 15 #[v] w fun e w' => e = .returned (.bool true) ∧ Below w.heap.size w w' := by
  have L1 := Lib.hid (long_any v (.slice none 0 0) t [] w hv (ints_nil w))
  have V := Lib.hid hv
  have S := Lib.hid sane_any
  have C1 := Lib.hid (tAll_of HS v t w hv)
  have C2 := Lib.hid (fun w1 hb => rAll_any v t w1 (V.out.below hb))
  have C3 := Lib.hid (fun w1 hb => tCount_of HS v t w1 (V.out.below hb))
  have C4 := Lib.hid (fun w1 hb => rCount_any v t w1 (V.out.below hb))
  have GA := Lib.hid (fun (w w' : World) (ov : Value) (h : RowsO w' w.heap.size ov (allL t)) => GivesAll.rows h)
  have LN := Lib.hid (allL_len t)
  unfold GivesAll at C1 C2
  obtain ⟨a0, c0, rfl, hl0, _⟩ := hv
  clear HS
  generalize allE t = ae at *
  generalize allL t = L at *
  cases hlong : (decide (20 < t.length) || decide (20 < ([] : List Int).length)) with
  | true =>
    rw [hlong] at L1
    clear hlong
    go_enter Try.func15, Try.ntmps15
    go_wp2_with (first | (go_at_call 21; (with_reducible refine (L1.out).mono ?_); rintro e w' ⟨rfl, rfl⟩) | (go_at_call 20; refine (S.out _).mono ?_; rintro e w' ⟨rfl, hbS⟩))
    go_ret
    exact ⟨rfl, hbS⟩
  | false =>
    rw [hlong] at L1
    clear hlong
    go_enter Try.func15, Try.ntmps15
    go_wp2_with (first | (go_at_call 21; (with_reducible refine (L1.out).mono ?_); rintro e w' ⟨rfl, rfl⟩))
    refine C1.out.mono ?_
    rintro e w1 ⟨v1, rfl, ho1, hb1⟩
    have R1 := Lib.hid (GA.out _ _ _ ho1)
    have HB1 := Lib.hid hb1
    clear ho1 hb1
    go_wp2_with fail
    refine (C2.out w1 HB1.out).mono ?_
    rintro e w2 ⟨v2, rfl, ho2, hb2⟩
    have R2 := Lib.hid (GA.out _ _ _ ho2)
    have HB2 := Lib.hid (HB1.out.trans (hb2.mono HB1.out.size))
    have K1 := Lib.hid (R1.out.below hb2)
    clear ho2 hb2 R1
    go_wp2_with fail
    refine (C3.out w2 HB2.out).mono ?_
    rintro e w3 ⟨rfl, hb3⟩
    have HB3 := Lib.hid (HB2.out.trans (hb3.mono HB2.out.size))
    have K2 := Lib.hid (K1.out.below hb3)
    have J2 := Lib.hid (R2.out.below hb3)
    clear hb3 K1 R2
    go_wp2_with fail
    refine (C4.out w3 HB3.out).mono ?_
    rintro e w4 ⟨rfl, hb4⟩
    have HB4 := Lib.hid (HB3.out.trans (hb4.mono HB3.out.size))
    have ST := Lib.hid (sameTables_any v1 v2 L w4 (K2.out.below hb4) (J2.out.below hb4) (by have := LN.out; omega))
    clear hb4 K2 J2 C1 C2 C3 C4 GA
    go_wp2_with (first | (go_at_call 51; refine ST.out.mono ?_; rintro e w5 ⟨rfl, hb5⟩) | (go_at_call 20; refine (S.out _).mono ?_; rintro e w' ⟨rfl, hbS⟩))
    go_ret
    have h5 := HB4.out.trans (hb5.mono HB4.out.size)
    exact ⟨rfl, h5.trans (hbS.mono h5.size)⟩

end Go.Proofs.Ytikcpfpeoofppaa

/- Contract: sorting rows of ints by slices.Compare, out of the shelf's contract. -/
namespace Go.Proofs.Ytikcpfpeoofppaa
open Go.RowKit Go.Sort Go.Proofs Go.Lib

section
variable {α : Type} [Inhabited α]
theorem holds_of_blockE {enc : α → Value} {w : World} {g : Nat} {cur : Array Value} {e : TypeId} {d : Array α} (hb : w.heap[g]? = some (.cells cur e (0, 0))) (ht : cur.toList.take d.size = d.toList.map enc) : Holds enc w g 0 d := by
  intro j hj
  refine ⟨?_, by simp [World.frozen?, hb]⟩
  have h1 : (cur.toList.take d.size)[j]? = (d.toList.map enc)[j]? := by rw [ht]
  rw [List.getElem?_take_of_lt hj] at h1
  simp only [World.cell?, hb, Nat.zero_add]
  simp only [Option.isSome_none, Bool.false_eq_true, if_false]
  rw [← Array.getElem?_toList, h1]
  simp [hj]
theorem heap_sortedE {enc : α → Value} {w : World} {g n : Nat} {os : Array Obj} {cur : Array Value} {e : TypeId} {fr : Nat × Nat} (d : Array α) (hb : w.heap[g]? = some (.cells cur e fr)) :
    (sortWorld enc w g 0 n d os).heap[g]? = some (.cells (putCells enc 0 d cur) e fr) := by
  unfold sortWorld
  have hg : g < w.heap.size := (Array.getElem?_eq_some_iff.1 hb).1
  rw [heap_grow_old _ _ (by simpa using hg)]
  simp [putRow, mapBlock, Sort.ahead, Array.getElem?_modify, hb, onCells]
theorem grownBy_sortedE {enc : α → Value} {w : World} {g n : Nat} {os : Array Obj} (d : Array α) : w.grownBy (sortWorld enc w g 0 n d os) (some g) := by
  unfold sortWorld
  refine ⟨rfl, rfl, rfl, by simp, fun k hk hne => ?_⟩
  rw [heap_grow_old _ _ (by simpa using hk)]
  have : g ≠ k := fun e => hne (by rw [e])
  simp [putRow, mapBlock, Sort.ahead, Array.getElem?_modify, this]
theorem take_putCellsE {enc : α → Value} (cur : Array Value) (d : Array α) (h : d.size ≤ cur.size) : (putCells enc 0 d cur).toList.take d.size = d.toList.map enc := by
  apply List.ext_getElem?
  intro j
  by_cases hj : j < d.size
  · rw [List.getElem?_take_of_lt hj, Array.getElem?_toList]
    simp [putCells, hj, show j < cur.size by omega]
  · rw [List.getElem?_take_eq_none (by omega), List.getElem?_eq_none (by simp; omega)]
end

theorem mk_arr {β : Type} (n : Nat) (f : (i : Nat) → i < n → β) : ∃ d : Array β, d.size = n ∧ ∀ i (h : i < n) (h' : i < d.size), d[i] = f i h :=
  ⟨Array.ofFn (fun i : Fin n => f i i.2), Array.size_ofFn, fun i h h' => by rw [Array.getElem_ofFn]⟩
/-- What is sorted: a header, and what it reads as. -/
def Hd (w : World) : Type := { p : Value × List Int // HeadO w p.1 p.2 ∧ p.2.length ≤ 1000 }
def encH {w : World} (x : Hd w) : Value := x.1.1
def cmpH {w : World} (x y : Hd w) : Int := cmpI x.1.2 y.1.2
theorem cmpH_swo (w : World) : SWO (ltOf (cmpH (w := w))) :=
  ⟨fun x => by simp [ltOf, cmpH, cmpI_self], fun x y z h1 h2 => by
    exact decide_eq_true (cmpI_trans (of_decide_eq_true h1) (of_decide_eq_true h2)), fun x y z h1 h2 => by
    exact decide_eq_false (cmpI_ntrans (of_decide_eq_false h1) (of_decide_eq_false h2))⟩
theorem HeadO.other {w : World} {x : Value} {l : List Int} (h : HeadO w x l) {g : Nat} {cur : Array Value} (hg : w.heap[g]? = some (.cells cur 29 (0, 0))) {b : Nat} (hb : x.ownBlock = some b) : b ≠ g := fun e => by
  subst e
  obtain ⟨_, c, hc⟩ := h.lt hb
  rw [hc] at hg
  simp only [Option.some.injEq, Obj.cells.injEq] at hg
  exact absurd hg.2.1 (by decide)
theorem HeadO.sorted {w w' : World} {x : Value} {l : List Int} (h : HeadO w x l) {g : Nat} {cur : Array Value} (hg : w.heap[g]? = some (.cells cur 29 (0, 0))) (hw : w.grownBy w' (some g)) : HeadO w' x l :=
  h.keep (fun b hb => hw.block b (h.lt hb).1 (fun e => h.other hg hb (by injection e)))

set_option maxRecDepth 100000 in
set_option maxHeartbeats 2000000 in
theorem sort_of {ρ : Go.Shelf.Ren} (L : SlLaysF.n6 Try.prog ρ) (hf : ρ.f 6 = 82) : SortOk := by
  rintro v Ls w B hpos ⟨H, h1, h2, h3⟩ hl hn
  rw [← hf]
  rcases h2.2 with ⟨_, h⟩ | ⟨g, cap, cur, rfl, hB, hg, hcap, hmax, hcs, htk⟩
  · omega
  have hm : ∀ i, i < Ls.length → Ls.getD i [] ∈ Ls := fun i hi => by rw [List.getD_eq_getElem?_getD, List.getElem?_eq_getElem hi]; exact List.getElem_mem hi
  let x0 : Hd w := ⟨(H.getD 0 undef, Ls.getD 0 []), h3 0 (by omega), hl _ (hm 0 (by omega))⟩
  haveI : Inhabited (Hd w) := ⟨x0⟩
  obtain ⟨d, hds, hdv⟩ := mk_arr (β := Hd w) Ls.length (fun i hi => (⟨(H.getD i undef, Ls.getD i []), h3 i hi, hl _ (hm i hi)⟩ : Hd w))
  have hdH : d.toList.map encH = H := by
    apply List.ext_getElem
    · simp [hds, h1]
    · intro i k1 k2
      rw [List.getElem_map, Array.getElem_toList, hdv i (by omega)]
      show H.getD i undef = H[i]
      simp [List.getD_eq_getElem?_getD, k2]
  have hdL : d.toList.map (fun x : Hd w => x.1.2) = Ls := by
    apply List.ext_getElem
    · simp [hds]
    · intro i k1 k2
      rw [List.getElem_map, Array.getElem_toList, hdv i k2]
      show Ls.getD i [] = Ls[i]
      simp [List.getD_eq_getElem?_getD, k2]
  have hH : Holds (encH (w := w)) w g 0 d := holds_of_blockE hg (by rw [hdH, hds]; simpa using htk)
  have hlt : g < w.heap.size := (Array.getElem?_eq_some_iff.1 hg).1
  have hcmp : CmpReads Try.prog 83 #[] (encH (w := w)) (cmpH (w := w)) g 0 d.size w := by
    intro m os dk hs x y
    have hx := (x.2.1.sorted hg (grownBy_sortedE (enc := encH (w := w)) (n := m) (os := os) dk)).ints x.2.2
    have hy := (y.2.1.sorted hg (grownBy_sortedE (enc := encH (w := w)) (n := m) (os := os) dk)).ints y.2.2
    exact (cmpI_any x.1.1 y.1.1 x.1.2 y.1.2 _ hx hy x.2.2).mono (fun e w' ⟨he, hw⟩ => ⟨he, 0, hw.symm⟩)
  have T := Any.slices_SortFunc L (encH (w := w)) (fun x => by obtain ⟨b, c, e, _⟩ := x.2.1; show Value.oneCell' x.1.1 = true; rw [e]; rfl) (cmpH (w := w)) (cmpH_swo w) 83 #[] g 0 cap d w
    (enters_of Try.func83 (by kernel_rfl) rfl) hcmp.lays hH hlt (by omega)
  rw [hds] at T
  refine T.mono ?_
  rintro e w' ⟨rfl, d', n, os, hp, hs, rfl⟩
  obtain ⟨hp1, _, hp3⟩ := hp
  rw [hds] at hp1
  have hpp : d'.toList.Perm d.toList := by
    have e1 : d'.extract 0 Ls.length = d' := by rw [← hp1]; simp
    have e2 : d.extract 0 Ls.length = d := by rw [← hds]; simp
    rwa [e1, e2] at hp3
  have hgb := grownBy_sortedE (enc := encH (w := w)) (w := w) (g := g) (n := n) (os := os) d'
  have hl' : (d'.toList.map fun x : Hd w => x.1.2).length = Ls.length := by simp [hp1]
  refine ⟨rfl, d'.toList.map (fun x : Hd w => x.1.2), by rw [← hdL]; exact hpp.map _, ?_, ⟨d'.toList.map (encH (w := w)), by simp, ?_, fun j hj => ?_⟩, ?_⟩
  · rw [List.pairwise_map, List.pairwise_iff_getElem]
    intro i j hi hj hij
    have := of_decide_eq_false (hs i j (Nat.zero_le _) hij (by rw [← hp1]; simpa using hj))
    rw [getElem!_pos d' i (by simpa using hi), getElem!_pos d' j (by simpa using hj)] at this
    exact this
  · rw [hl']
    refine ⟨by simp [hp1], .inr ⟨g, cap, _, rfl, hB, heap_sortedE _ hg, hcap, hmax, by simp [putCells, hcs], ?_⟩⟩
    rw [Nat.mul_one, ← hp1]
    exact take_putCellsE cur d' (by omega)
  · have hj' : j < d'.size := by rw [hp1]; rw [hl'] at hj; exact hj
    have hx := d'[j].2.1.sorted hg hgb
    have e1 : (d'.toList.map (encH (w := w))).getD j undef = d'[j].1.1 := by simp [List.getD_eq_getElem?_getD, hj', encH]
    have e2 : (d'.toList.map fun x : Hd w => x.1.2).getD j [] = d'[j].1.2 := by simp [List.getD_eq_getElem?_getD, hj']
    rw [e1, e2]
    exact hx
  · exact (Below.refl B w).grown hgb (by omega) (fun k e => by injection e with e; omega)

end Go.Proofs.Ytikcpfpeoofppaa

/- The law TankAll: the walk, with the sort. -/
namespace Go.Proofs.Ytikcpfpeoofppaa
open Go.RowKit

theorem TankAll_walk (v : Value) (t : List Int) (w : World) (hv : IntsAt w v t) :
    Calls Try.prog 15 #[v] w fun e w' => e = .returned (.bool true) ∧ Below w.heap.size w w' :=
  TankAll_of (sort_of Try.laysSlF6_f82 rfl) v t w hv

end Go.Proofs.Ytikcpfpeoofppaa
