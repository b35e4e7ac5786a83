/- Contract: the reference's text of a tide; Format of both. -/
import Derived.Test.YtbgflacfemeblaaDoorTe
namespace Go.Proofs.YtbgflacfemeblaaDoor
open Go.RowKit Go.Shelf

/-- What stands in front of the element k. -/
def sepK (sep : UInt8) (k : Nat) : List UInt8 := if k = 0 then [] else [sep]
theorem join_take (sep : UInt8) (xs : List (List UInt8)) (k : Nat) (h : k < xs.length) : Lib.join (xs.take (k + 1)) [sep] = Lib.join (xs.take k) [sep] ++ sepK sep k ++ xs.getD k [] := by
  rw [List.take_succ_eq_append_getElem h, join_snoc, List.getD_eq_getElem?_getD, List.getElem?_eq_getElem h]
  by_cases hk : k = 0
  · subst hk
    simp [sepK, Lib.join_nil]
  · rw [if_neg (by
      intro e
      have := congrArg List.length e
      simp only [List.length_take, List.length_nil] at this
      omega), sepK, if_neg hk]
    simp
/-- A string of bytes. -/
def bsB (l : List UInt8) : ByteArray := ⟨l.toArray⟩
theorem bsB_app (a b : List UInt8) : bsB a ++ bsB b = bsB (a ++ b) := by apply ba_ext2; simp [bsB]
theorem bsB_size (a : List UInt8) : (bsB a).size = a.length := by simp [bsB, ByteArray.size]
theorem getD_map' {α β : Type} (f : α → β) (l : List α) (k : Nat) (d : α) (e : β) (h : k < l.length) : (l.map f).getD k e = f (l.getD k d) := by
  rw [List.getD_eq_getElem?_getD, List.getD_eq_getElem?_getD, List.getElem?_map, List.getElem?_eq_getElem h]
  rfl
theorem join_take_len {l : List Int} (h : wvld l = true) (j : Nat) : (Lib.join ((l.map Lib.itoa).take j) [44]).length ≤ 144 := by
  obtain ⟨h1, h2, h3⟩ := (wvld_iff l).1 h
  have := join_len [44] 11 ((l.map Lib.itoa).take j) (fun x hx => by
    obtain ⟨n, hn, rfl⟩ := List.mem_map.1 (List.mem_of_mem_take hx)
    have := h3 n hn
    exact itoa_len (by omega) (by omega))
  simp only [List.length_take, List.length_map, List.length_cons, List.length_nil] at this
  have h4 : min j l.length ≤ 12 := by omega
  have h5 : min j l.length * (11 + (0 + 1)) ≤ 12 * 12 := Nat.mul_le_mul h4 (by omega)
  omega
theorem join_take_len2 {t : List (List Int)} (h : Vld t) (j : Nat) : (Lib.join ((t.map texW).take j) [59]).length ≤ 580 := by
  have hh := h.hi
  have := join_len [59] 144 ((t.map texW).take j) (fun x hx => by
    obtain ⟨l, hl, rfl⟩ := List.mem_map.1 (List.mem_of_mem_take hx)
    exact texW_len ((wvld_iff l).2 (h.wave l hl)))
  simp only [List.length_take, List.length_map, List.length_cons, List.length_nil] at this
  have h5 : min j t.length * (144 + (0 + 1)) ≤ 4 * 145 := Nat.mul_le_mul (by omega) (by omega)
  omega

set_option maxRecDepth 100000 in
set_option maxHeartbeats 4000000 in
theorem rtext_any (v : Value) (t : List (List Int)) (w : World) (hv : RowsAt w v t) (ht : Vld t) :
    Calls Tryd.prog 15 #[v] w fun e w' => e = .returned (strV (texL t)) ∧ Below w.heap.size w w' := by
  have hlo := ht.lo
  have hhi := ht.hi
  have HT := Lib.hid ht
  obtain ⟨a, cap, rfl, hl, hq⟩ := id hv
  obtain ⟨b, off, rfl, hc⟩ := hq (by omega)
  clear hq hv ht
  go_enter Tryd.func15, Tryd.ntmps15
  go_wp2
  go_loopw [3, 10] (fun o i wr => ∃ k : Nat, k ≤ t.length ∧ i = .int .i64 k ∧ o = .string (bsB (Lib.join ((t.map texW).take k) [59])) ∧ Below w.heap.size w wr)
    (fun _ i _ => t.length - (intOf i).toNat)
  case atStart => exact ⟨0, Nat.zero_le _, rfl, rfl, Below.refl _ _⟩
  case round =>
    obtain ⟨k, hk, rfl, rfl, hbel⟩ := hrel
    obtain ⟨wo, rfl⟩ : ∃ wo : World, wo = wr := ⟨_, rfl⟩
    have hsz := hbel.size
    by_cases hlt : k < t.length
    · obtain ⟨x, hx0, hi⟩ := hc k hlt
      have hmem := getD_mem hlt
      have SN := Lib.hid (join_take 59 (t.map texW) k (by simpa using hlt))
      have SG := Lib.hid (getD_map' texW t k [] [] hlt)
      have hwv := (wvld_iff _).2 (HT.out.wave _ hmem)
      have hw3 := HT.out.wave _ hmem
      have hTL := Lib.hid (join_take_len hwv)
      have hPL := join_take_len2 HT.out k
      generalize hlk : t.getD k [] = lk at *
      clear hlk
      generalize Lib.join ((t.map texW).take k) [59] = pre at *
      have hl1 := hw3.1
      have hl2 := hw3.2.1
      have HW := Lib.hid hw3.2.2
      have hx := keep_cell hbel hx0
      obtain ⟨lb, lo, lc, rfl, hlc⟩ := ints_cell hi (by omega)
      have HLC0 := Lib.hid hlc
      have HB := Lib.hid hbel
      have z1 : (bsB pre).size + 1 ≤ 9223372036854775807 := by rw [bsB_size]; omega
      have z2 : (bsB pre).size + (ByteArray.mk #[59]).size ≤ 9223372036854775807 := z1
      clear hx0 hi hlc hw3 hwv hmem
      by_cases hk0 : k = 0
      · have KP : Hid (bsB pre = bsB (pre ++ sepK 59 k)) := Lib.hid (by rw [sepK, if_pos hk0, List.append_nil])
        have hPS : (pre ++ sepK 59 k).length ≤ 581 := by rw [sepK, if_pos hk0, List.append_nil]; omega
        generalize hpp : pre ++ sepK 59 k = pp at *
        clear hpp
        have hk1 : ¬ 0 < k := by omega
        clear hk0 hPL z1 z2
        go_wp2
        rw [KP.out]
        go_loopw [3, 21] (fun o i wr => ∃ j : Nat, j ≤ lk.length ∧ i = .int .i64 j ∧ o = .string (bsB (pp ++ Lib.join ((lk.map Lib.itoa).take j) [44])) ∧ Below w.heap.size w wr)
          (fun _ i _ => lk.length - (intOf i).toNat)
        case atStart => exact ⟨0, Nat.zero_le _, rfl, by rw [List.take_zero, Lib.join_nil, List.append_nil], HB.out⟩
        case round =>
          obtain ⟨j, hj, rfl, rfl, hbel⟩ := hrel
          have hsz2 := hbel.size
          have HB2 := Lib.hid hbel
          by_cases hjl : j < lk.length
          · have hn := HW.out _ (getD_mem' hjl)
            have SJ := Lib.hid (join_take 44 (lk.map Lib.itoa) j (by simpa using hjl))
            have SGJ := Lib.hid (getD_map' Lib.itoa lk j 0 [] hjl)
            have hcx := keep_cell hbel (HLC0.out j hjl)
            have hTj := hTL.out j
            generalize lk.getD j 0 = n at *
            generalize Lib.join ((lk.map Lib.itoa).take j) [44] = pj at *
            have D : Hid (Calls Tryd.prog 27 #[.int .i64 n] wr fun e w' => e = .returned (.string (bsB (Lib.itoa n))) ∧ Below wr.heap.size wr w') := Lib.hid (decimal_any n wr (by omega) (by omega))
            have hz := itoa_len (n := n) (by omega) (by omega)
            have y1 : (bsB (pp ++ pj)).size + 1 ≤ 9223372036854775807 := by rw [bsB_size, List.length_append]; omega
            have y2 : (bsB (pp ++ pj)).size + (ByteArray.mk #[44]).size ≤ 9223372036854775807 := y1
            have y3 : (bsB (pp ++ pj)).size + (bsB (Lib.itoa n)).size ≤ 9223372036854775807 := by rw [bsB_size, bsB_size, List.length_append]; omega
            have y4 : (bsB (pp ++ (pj ++ [44]))).size + (bsB (Lib.itoa n)).size ≤ 9223372036854775807 := by rw [bsB_size, bsB_size, List.length_append, List.length_append]; simp; omega
            clear hz hbel hTj
            by_cases hj0 : j = 0
            · have hj1 : ¬ (j : Int) > 0 := by omega
              have SJ0 : Hid (sepK 44 j = []) := Lib.hid (by rw [sepK, if_pos hj0])
              clear hj0 y1 y2 y4
              go_wp2_with fail
              skip
              refine D.out.mono ?_
              rintro e w1 ⟨rfl, hb1⟩
              have HB3 := Lib.hid (HB2.out.trans (hb1.mono hsz2))
              clear hb1
              go_wp2
              rw [bsB_app]
              go_roundw
              case rel => exact ⟨j + 1, by omega, by go_num, by rw [SJ.out, SGJ.out]; (rw [SJ0.out, List.append_nil, List.append_assoc]), HB3.out⟩
              case measure => simp [intOf]; omega
            · have hj1 : (j : Int) > 0 := by omega
              have SJ0 : Hid (sepK 44 j = [44]) := Lib.hid (by rw [sepK, if_neg hj0])
              clear hj0 y3
              go_wp2_with fail
              rw [show bsB (pp ++ pj) ++ ⟨#[44]⟩ = bsB (pp ++ (pj ++ [44])) from (bsB_app _ _).trans (by rw [List.append_assoc])]
              refine D.out.mono ?_
              rintro e w1 ⟨rfl, hb1⟩
              have HB3 := Lib.hid (HB2.out.trans (hb1.mono hsz2))
              clear hb1
              go_wp2
              rw [bsB_app]
              go_roundw
              case rel => exact ⟨j + 1, by omega, by go_num, by rw [SJ.out, SGJ.out]; (rw [SJ0.out]; simp [List.append_assoc]), HB3.out⟩
              case measure => simp [intOf]; omega
          · have e : j = lk.length := by omega
            subst e
            go_wp2
            go_roundw
            case rel => exact ⟨k + 1, by omega, by go_num, by rw [SN.out, SG.out, List.take_of_length_le (by simp)]; rfl, HB2.out⟩
            case measure => simp [intOf]; omega
      · have KP : Hid (bsB pre ++ ⟨#[59]⟩ = bsB (pre ++ sepK 59 k)) := Lib.hid (by rw [sepK, if_neg hk0]; exact bsB_app _ _)
        have hPS : (pre ++ sepK 59 k).length ≤ 581 := by rw [sepK, if_neg hk0, List.length_append]; simp; omega
        generalize hpp : pre ++ sepK 59 k = pp at *
        clear hpp
        have hk1 : 0 < k := by omega
        clear hk0 hPL
        go_wp2
        rw [KP.out]
        go_loopw [3, 21] (fun o i wr => ∃ j : Nat, j ≤ lk.length ∧ i = .int .i64 j ∧ o = .string (bsB (pp ++ Lib.join ((lk.map Lib.itoa).take j) [44])) ∧ Below w.heap.size w wr)
          (fun _ i _ => lk.length - (intOf i).toNat)
        case atStart => exact ⟨0, Nat.zero_le _, rfl, by rw [List.take_zero, Lib.join_nil, List.append_nil], HB.out⟩
        case round =>
          obtain ⟨j, hj, rfl, rfl, hbel⟩ := hrel
          have hsz2 := hbel.size
          have HB2 := Lib.hid hbel
          by_cases hjl : j < lk.length
          · have hn := HW.out _ (getD_mem' hjl)
            have SJ := Lib.hid (join_take 44 (lk.map Lib.itoa) j (by simpa using hjl))
            have SGJ := Lib.hid (getD_map' Lib.itoa lk j 0 [] hjl)
            have hcx := keep_cell hbel (HLC0.out j hjl)
            have hTj := hTL.out j
            generalize lk.getD j 0 = n at *
            generalize Lib.join ((lk.map Lib.itoa).take j) [44] = pj at *
            have D : Hid (Calls Tryd.prog 27 #[.int .i64 n] wr fun e w' => e = .returned (.string (bsB (Lib.itoa n))) ∧ Below wr.heap.size wr w') := Lib.hid (decimal_any n wr (by omega) (by omega))
            have hz := itoa_len (n := n) (by omega) (by omega)
            have y1 : (bsB (pp ++ pj)).size + 1 ≤ 9223372036854775807 := by rw [bsB_size, List.length_append]; omega
            have y2 : (bsB (pp ++ pj)).size + (ByteArray.mk #[44]).size ≤ 9223372036854775807 := y1
            have y3 : (bsB (pp ++ pj)).size + (bsB (Lib.itoa n)).size ≤ 9223372036854775807 := by rw [bsB_size, bsB_size, List.length_append]; omega
            have y4 : (bsB (pp ++ (pj ++ [44]))).size + (bsB (Lib.itoa n)).size ≤ 9223372036854775807 := by rw [bsB_size, bsB_size, List.length_append, List.length_append]; simp; omega
            clear hz hbel hTj
            by_cases hj0 : j = 0
            · have hj1 : ¬ (j : Int) > 0 := by omega
              have SJ0 : Hid (sepK 44 j = []) := Lib.hid (by rw [sepK, if_pos hj0])
              clear hj0 y1 y2 y4
              go_wp2_with fail
              skip
              refine D.out.mono ?_
              rintro e w1 ⟨rfl, hb1⟩
              have HB3 := Lib.hid (HB2.out.trans (hb1.mono hsz2))
              clear hb1
              go_wp2
              rw [bsB_app]
              go_roundw
              case rel => exact ⟨j + 1, by omega, by go_num, by rw [SJ.out, SGJ.out]; (rw [SJ0.out, List.append_nil, List.append_assoc]), HB3.out⟩
              case measure => simp [intOf]; omega
            · have hj1 : (j : Int) > 0 := by omega
              have SJ0 : Hid (sepK 44 j = [44]) := Lib.hid (by rw [sepK, if_neg hj0])
              clear hj0 y3
              go_wp2_with fail
              rw [show bsB (pp ++ pj) ++ ⟨#[44]⟩ = bsB (pp ++ (pj ++ [44])) from (bsB_app _ _).trans (by rw [List.append_assoc])]
              refine D.out.mono ?_
              rintro e w1 ⟨rfl, hb1⟩
              have HB3 := Lib.hid (HB2.out.trans (hb1.mono hsz2))
              clear hb1
              go_wp2
              rw [bsB_app]
              go_roundw
              case rel => exact ⟨j + 1, by omega, by go_num, by rw [SJ.out, SGJ.out]; (rw [SJ0.out]; simp [List.append_assoc]), HB3.out⟩
              case measure => simp [intOf]; omega
          · have e : j = lk.length := by omega
            subst e
            go_wp2
            go_roundw
            case rel => exact ⟨k + 1, by omega, by go_num, by rw [SN.out, SG.out, List.take_of_length_le (by simp)]; rfl, HB2.out⟩
            case measure => simp [intOf]; omega
    · have e : k = t.length := by omega
      subst e
      go_wp2
      go_ret
      exact ⟨ret_s (by rw [List.take_of_length_le (by simp)]; rfl), hbel⟩
end Go.Proofs.YtbgflacfemeblaaDoor
