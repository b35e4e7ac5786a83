/- Contracts: the text of a tide, of the program and of the reference; Format of both. -/
import Derived.Test.YtbgflacfemeblaaDoorDm
namespace Go.Proofs.YtbgflacfemeblaaDoor
open Go.RowKit Go.Shelf

theorem getD_take_snoc {α β : Type} (f : α → β) (l : List α) (k : Nat) (d : α) (h : k < l.length) : (l.map f).take (k + 1) = (l.map f).take k ++ [f (l.getD k d)] := by
  rw [← List.map_take, ← List.map_take, List.take_succ_eq_append_getElem h, List.map_append, List.getD_eq_getElem?_getD, List.getElem?_eq_getElem h]
  rfl

/-- What an append to a row leaves. -/
def WordsAt (B : Nat) (wr : World) (v : Value) (l : List ByteArray) : Prop := wr.ownsRow B 9 1 v l.length (l.map Value.string)

set_option maxRecDepth 100000 in
set_option maxHeartbeats 4000000 in
theorem text_any (v : Value) (t : List (List Int)) (w : World) (hv : RowsAt w v t) (ht : Vld t) (hV : Vars w) :
    Calls Tryd.prog 13 #[v] w fun e w' => e = .returned (strV (texL t)) ∧ Below w.heap.size w w' := by
  have hlo := ht.lo
  have hhi := ht.hi
  have HT := Lib.hid ht
  have HV := Lib.hid hv
  have HVR := Lib.hid hV
  obtain ⟨i0, hi0, hz0, hz1, hz2⟩ := info_parts Tryd.infoStr
  obtain ⟨a, cap, rfl, hl, hq⟩ := id hv
  obtain ⟨b, off, rfl, hc⟩ := hq (by omega)
  clear hq hv ht hV
  go_enter Tryd.func13, Tryd.ntmps13
  go_wp2
  go_loopw [3, 11] (fun o i wr => ∃ k : Nat, k ≤ t.length ∧ i = .int .i64 k ∧ wr.ownsRow w.heap.size 9 1 o k ((t.map (fun l => strV (texW l))).take k) ∧ Below w.heap.size w wr)
    (fun _ i _ => t.length - (intOf i).toNat)
  case atStart => exact ⟨0, Nat.zero_le _, rfl, World.ownsRow_nil _ _ _ _, Below.refl _ _⟩
  case round =>
    obtain ⟨k, hk, rfl, hown, hbel⟩ := hrel
    obtain ⟨wo, rfl⟩ : ∃ wo : World, wo = wr := ⟨_, rfl⟩
    have hsz := hbel.size
    have HO := Lib.hid hown
    have HB := Lib.hid hbel
    by_cases hlt : k < t.length
    · obtain ⟨x, hx0, hi⟩ := hc k hlt
      have hmem := getD_mem hlt
      have SN := Lib.hid (getD_take_snoc (fun l => strV (texW l)) t k [] hlt)
      have hwv := (wvld_iff _).2 (HT.out.wave _ hmem)
      have hw3 := HT.out.wave _ hmem
      have hTL := Lib.hid (texW_len hwv)
      generalize t.getD k [] = lk at *
      have hl1 := hw3.1
      have hl2 := hw3.2.1
      have HW := Lib.hid hw3.2.2
      have hx := keep_cell hbel hx0
      have hiw := hi.below hbel
      obtain ⟨lb, lo, lc, rfl, hlc⟩ := ints_cell hiw (by omega)
      have HLC := Lib.hid hlc
      clear hx0 hi hiw hlc hw3 hwv hmem hown hbel
      go_wp2
      go_loopw [6, 17] (fun o i wr => ∃ j : Nat, j ≤ lk.length ∧ i = .int .i64 j ∧ wr.ownsRow wo.heap.size 9 1 o j ((lk.map (fun n => Value.string (itoaB n))).take j) ∧ Below wo.heap.size wo wr)
        (fun _ i _ => lk.length - (intOf i).toNat)
      case atStart => exact ⟨0, Nat.zero_le _, rfl, World.ownsRow_nil _ _ _ _, Below.refl _ _⟩
      case round =>
        obtain ⟨j, hj, rfl, hown, hbel⟩ := hrel
        have hsz2 := hbel.size
        by_cases hjl : j < lk.length
        · have hn := HW.out _ (getD_mem' hjl)
          have SJ := Lib.hid (getD_take_snoc (fun n => Value.string (itoaB n)) lk j 0 hjl)
          have hcx := keep_cell hbel (HLC.out j hjl)
          generalize lk.getD j 0 = n at *
          have IT := Lib.hid (itoa_any n (by omega) (by omega) wr (HVR.out.below (HB.out.trans (hbel.mono hsz))))
          have HO2 := Lib.hid hown
          have HB2 := Lib.hid hbel
          clear hown hbel
          go_wp2_with fail
          refine IT.out.mono ?_
          rintro e w1 ⟨rfl, hb1⟩
          have hown1 := own_below HO2.out hb1
          have hbel1 := HB2.out.trans (hb1.mono hsz2)
          have hsz1 := hbel1.size
          have HO3 := Lib.hid hown1
          have HB3 := Lib.hid hbel1
          clear hb1 hown1 hbel1
          go_wp2_with (at_builtin; refine wpList_append_own _ rfl _ _ 53 rfl wo.heap.size 9 i0 (.string ⟨#[]⟩) 1 16 Tryd.underlying53 hi0 hz0 hz1 hz2 rfl (by decide) _ _ _ rfl (HO3.out.alloc _) ⟨w1.heap.size, 0, none⟩ 1 1 [.string (itoaB n)] rfl rfl ?c1 ?c2 ?c3 ?c4 ?c5 ?_)
          case c1 => exact (cell_one_new _ _ _)
          case c2 => intro u hu; simp at hu; subst hu; rfl
          case c3 => unfold maxLen; omega
          case c4 => omega
          case c5 => simp; omega
          · intro v' w2 hown' hgrow _
            have R := below_append HB3.out hsz1 HO3.out hgrow
            clear hgrow
            go_wp2
            go_roundw
            case rel => exact ⟨j + 1, by omega, by go_num, by rw [SJ.out]; exact hown', R⟩
            case measure => simp [intOf]; omega
        · have e : j = lk.length := by omega
          subst e
          have HO4 : Hid (World.ownsRow wr wo.heap.size 9 1 _ (lk.map itoaB).length ((lk.map itoaB).map Value.string)) := Lib.hid (by
            have h := hown
            rw [List.take_of_length_le (by simp)] at h
            rw [List.length_map, List.map_map]
            exact h)
          have hJ := join_own _ _ _ (lk.map itoaB) ⟨#[44]⟩ wr HO4.out (by intro e; rw [List.map_eq_nil_iff] at e; rw [e] at hl1; simp at hl1) (by rw [List.length_map]; omega) (by
            have h := hTL.out
            unfold texW at h
            rw [List.map_map]
            exact Nat.le_trans h (by omega))
          have EJ : Lib.join ((lk.map itoaB).map (·.data.toList)) [44] = texW lk := by
            rw [List.map_map]; rfl
          have hO1 := own_below HO.out hbel
          have hB1 := HB.out.trans (hbel.mono hsz)
          have HJ := Lib.hid hJ
          have HEJ := Lib.hid EJ
          have HO5 := Lib.hid hO1
          have HB5 := Lib.hid hB1
          clear hown hbel hJ EJ hO1 hB1 HO4 HO
          go_wp2_with fail
          refine HJ.out.mono ?_
          rintro e w1 ⟨rfl, hb1⟩
          rw [HEJ.out]
          have HO6 := Lib.hid (own_below HO5.out hb1)
          have HB6 := Lib.hid (HB5.out.trans (hb1.mono HB5.out.size))
          have hsz1 := HB6.out.size
          clear hb1
          unfold strV
          generalize hs : ByteArray.mk (texW lk).toArray = sv
          have HS := Lib.hid hs
          clear hs
          go_wp2_with (at_builtin; refine wpList_append_own _ rfl _ _ 53 rfl w.heap.size 9 i0 (.string ⟨#[]⟩) 1 16 Tryd.underlying53 hi0 hz0 hz1 hz2 rfl (by decide) _ _ _ rfl (HO6.out.alloc _) ⟨w1.heap.size, 0, none⟩ 1 1 [.string sv] rfl rfl ?d1 ?d2 ?d3 ?d4 ?d5 ?_)
          case d1 => exact (cell_one_new _ _ _)
          case d2 => intro u hu; simp at hu; subst hu; rfl
          case d3 => unfold maxLen; omega
          case d4 => omega
          case d5 => simp; omega
          · intro v' w2 hown' hgrow _
            have R := below_append HB6.out hsz1 HO6.out hgrow
            clear hgrow
            go_wp2
            go_roundw
            case rel => exact ⟨k + 1, by omega, by go_num, by rw [SN.out]; unfold strV; rw [HS.out]; exact hown', R⟩
            case measure => simp [intOf]; omega
    · have e : k = t.length := by omega
      subst e
      have HO4 : Hid (World.ownsRow wo w.heap.size 9 1 _ (t.map fun l => (ByteArray.mk (texW l).toArray)).length ((t.map fun l => (ByteArray.mk (texW l).toArray)).map Value.string)) := Lib.hid (by
        have h := hown
        rw [List.take_of_length_le (by simp)] at h
        rw [List.length_map, List.map_map]
        exact h)
      have EJ : (t.map fun l => (ByteArray.mk (texW l).toArray)).map (·.data.toList) = t.map texW := by
        rw [List.map_map]
        simp
      have HJ := Lib.hid (join_own _ _ _ (t.map fun l => (ByteArray.mk (texW l).toArray)) ⟨#[59]⟩ wo HO4.out (by intro e; rw [List.map_eq_nil_iff] at e; rw [e] at hlo; simp at hlo) (by rw [List.length_map]; omega) (by
        rw [EJ]
        exact Nat.le_trans (texL_len HT.out) (by omega)))
      have HEJ := Lib.hid EJ
      clear hown hbel EJ HO4 HO
      go_wp2_with fail
      refine HJ.out.mono ?_
      rintro e w1 ⟨rfl, hb1⟩
      rw [HEJ.out]
      go_wp2
      go_ret
      exact ⟨rfl, HB.out.trans (hb1.mono hsz)⟩
end Go.Proofs.YtbgflacfemeblaaDoor
