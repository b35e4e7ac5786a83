/- Contracts: parse. -/
import Derived.Test.YtdfkaijeppdhaaaGreatDoorEh
namespace Go.Proofs.YtdfkaijeppdhaaaGreatDoor
open Go.RowKit Go.Shelf

/-- What split hands back where there are two words. -/
theorem split_two (s : ByteArray) (hs : s.size ≤ 1000000) (w : World) (hV : Vars w) {w0 r0 : ByteArray} {rs : List ByteArray} (h : splitA 32 s = w0 :: r0 :: rs) (m : Nat) (hm : rs.length + 1 = m) :
    Calls Tryz.prog 84 #[.string s] w fun e w' => e = .returned (.tuple #[.string w0, .slice (some ⟨w.heap.size, 1, none⟩) m m]) ∧ RestAt w' w.heap.size 1 (r0 :: rs) ∧ Below w.heap.size w w' := by
  have S := split_any s (by omega) w hV
  rw [h] at S
  refine S.mono ?_
  rintro e w' ⟨⟨a, c, rfl, hc⟩, hb⟩
  subst hm
  obtain ⟨rfl, rfl, hq⟩ := hc (by simp)
  refine ⟨rfl, fun j hj => ?_, hb⟩
  have := hq j (by simpa using hj)
  rw [this]
  rfl
theorem split_one (s : ByteArray) (hs : s.size ≤ 1000000) (w : World) (hV : Vars w) {w0 : ByteArray} (h : splitA 32 s = [w0]) :
    Calls Tryz.prog 84 #[.string s] w fun e w' => (∃ a c, e = .returned (.tuple #[.string w0, .slice a 0 c])) ∧ Below w.heap.size w w' := by
  have S := split_any s (by omega) w hV
  rw [h] at S
  refine S.mono ?_
  rintro e w' ⟨⟨a, c, rfl, hc⟩, hb⟩
  exact ⟨⟨a, c, rfl⟩, hb⟩
theorem parse_words {s w0 r0 : ByteArray} {rs : List ByteArray} (h : splitA 32 s = w0 :: r0 :: rs) : parseB s = lineB1 w0 r0 rs s := by unfold parseB; rw [h]
theorem words_len {s w0 r0 : ByteArray} {rs : List ByteArray} (hs : s.size ≤ 1000000) (h : splitA 32 s = w0 :: r0 :: rs) : rs.length + 1 ≤ 1000000 := by
  have h1 := splitA_len 32 s
  rw [h] at h1
  have := List.count_le_length (a := (32 : UInt8)) (l := s.data.toList)
  rw [← ba_size] at this
  simp only [List.length_cons] at h1
  omega
theorem words_sz {s w0 r0 : ByteArray} {rs : List ByteArray} (hs : s.size ≤ 1000000) (h : splitA 32 s = w0 :: r0 :: rs) : ∀ x ∈ r0 :: rs, x.size ≤ 281474976710656 := fun x hx => by
  have := splitA_size (c := 32) (s := s) (x := x) (by rw [h]; simp only [List.mem_cons] at hx ⊢; exact .inr hx)
  omega

set_option maxHeartbeats 1000000 in
theorem parse_one (s : ByteArray) (hs : s.size ≤ 1000000) (w : World) (hV : Vars w) {w0 : ByteArray} (h : splitA 32 s = [w0]) :
    Calls Tryz.prog 54 #[.string s] w (GivesC w (parseB s)) := by
  have hp : parseB s = none := by unfold parseB; rw [h]
  rw [hp]
  have HS := Lib.hid (split_one s hs w hV h)
  clear hV h hp
  go_enter Tryz.func54, Tryz.ntmps54
  go_wp2_with fail
  refine HS.out.mono ?_
  rintro e w1 ⟨⟨a, c, rfl⟩, hb1⟩
  have HB1 := Lib.hid hb1
  clear hb1
  go_wp2
  go_ret
  exact ⟨⟨_, rfl, rfl⟩, HB1.out⟩

set_option maxHeartbeats 2000000 in
theorem parse_other (s : ByteArray) (hs : s.size ≤ 1000000) (w : World) (hV : Vars w) {w0 r0 : ByteArray} {rs : List ByteArray} (h : splitA 32 s = w0 :: r0 :: rs)
    (n1 : w0 ≠ putW) (n2 : w0 ≠ dropW) (n3 : w0 ≠ stockW) (n4 : w0 ≠ addW) (n5 : w0 ≠ shareW) :
    Calls Tryz.prog 54 #[.string s] w (GivesC w (parseB s)) := by
  have hnl : parseB s = aboutB w0 (r0 :: rs) := by rw [parse_words h]; unfold lineB1; rw [if_neg n1, if_neg n2, if_neg n3, if_neg n4, if_neg n5]
  have HNL := Lib.hid hnl
  have k1 := ne_word n1
  have k2 := ne_word n2
  have k3 := ne_word n3
  have k4 := ne_word n4
  have k5 := ne_word n5
  have HS := Lib.hid (split_two s hs w hV h (rs.length + 1) rfl)
  have HL := Lib.hid (words_len hs h)
  have HSZ := Lib.hid (words_sz hs h)
  have HV := Lib.hid hV
  obtain ⟨O, hO0⟩ : ∃ O, O = parseB s := ⟨_, rfl⟩
  have HO := Lib.hid (hO0.trans (parse_words h))
  have HH := Lib.hid h
  rw [← hO0]
  clear hO0 hV h
  have hL := HL.out
  have z1 : ((rs.length : Int) + 1 == 0) = false := by simp; omega
  have HOL : Hid (O = aboutB w0 (r0 :: rs)) := Lib.hid (by rw [HO.out, ← parse_words HH.out]; exact HNL.out)
  clear n1 n2 n3 n4 n5 hnl
  go_enter Tryz.func54, Tryz.ntmps54
  go_wp2_with fail
  refine HS.out.mono ?_
  rintro e w1 ⟨rfl, hr1, hb1⟩
  have c0 : w1.cell? ⟨w.heap.size, 1, none⟩ = some (.string r0) := hr1 0 (by simp)
  have HR1 := Lib.hid hr1
  have HB1 := Lib.hid hb1
  clear hr1 hb1
  go_wp2_with fail
  refine (about_any w0 w.heap.size 1 (r0 :: rs) (by simp only [List.length_cons]; exact HL.out) HSZ.out w1 HR1.out (HV.out.below HB1.out)).mono ?_
  rintro e w2 ⟨⟨v, rfl, hv⟩, hb2⟩
  have HV2 := Lib.hid hv
  have HB2 := Lib.hid hb2
  clear hv hb2
  go_wp2
  go_ret
  exact ⟨⟨v, rfl, by rw [HOL.out]; exact HV2.out⟩, below_trans HB1.out HB2.out⟩
/-! ### drop, stock -/
theorem line_drop {r0 s : ByteArray} {rs : List ByteArray} : lineB1 dropW r0 rs s = if decide (rs = []) && isNameB r0 then some (.drop r0) else none := rfl
theorem line_stock {r0 s : ByteArray} {rs : List ByteArray} : lineB1 stockW r0 rs s = if decide (rs = []) && isNameB r0 then some (.stock r0) else none := rfl
set_option maxHeartbeats 2000000 in
theorem parse_drop_many (s : ByteArray) (hs : s.size ≤ 1000000) (w : World) (hV : Vars w) {r0 : ByteArray} {rs : List ByteArray} (h : splitA 32 s = dropW :: r0 :: rs) (hr : rs ≠ []) :
    Calls Tryz.prog 54 #[.string s] w (GivesC w (parseB s)) := by
  have hm : 1 ≤ rs.length := List.length_pos_iff.2 hr
  have HR0 := Lib.hid hr
  clear hr
  have HS := Lib.hid (split_two s hs w hV h (rs.length + 1) rfl)
  have HL := Lib.hid (words_len hs h)
  have HSZ := Lib.hid (words_sz hs h)
  have HV := Lib.hid hV
  obtain ⟨O, hO0⟩ : ∃ O, O = parseB s := ⟨_, rfl⟩
  have HO := Lib.hid (hO0.trans (parse_words h))
  have HH := Lib.hid h
  rw [← hO0]
  clear hO0 hV h
  have HOL : Hid (O = none) := Lib.hid (by rw [HO.out, line_drop, decide_eq_false HR0.out]; rfl)
  have hL := HL.out
  have z1 : ((rs.length : Int) + 1 == 0) = false := by simp; omega
  have z2 : ((rs.length : Int) + 1 != 1) = true := by simp; omega
  unfold dropW at HS
  go_enter Tryz.func54, Tryz.ntmps54
  go_wp2_with fail
  refine HS.out.mono ?_
  rintro e w1 ⟨rfl, hr1, hb1⟩
  have c0 : w1.cell? ⟨w.heap.size, 1, none⟩ = some (.string r0) := hr1 0 (by simp)
  have HR1 := Lib.hid hr1
  have HB1 := Lib.hid hb1
  clear hr1 hb1
  go_wp2
  go_ret
  exact ⟨⟨_, rfl, by rw [HOL.out]; rfl⟩, HB1.out⟩
set_option maxHeartbeats 2000000 in
theorem parse_drop_one (s : ByteArray) (hs : s.size ≤ 1000000) (w : World) (hV : Vars w) {r0 : ByteArray} (h : splitA 32 s = [dropW, r0]) :
    Calls Tryz.prog 54 #[.string s] w (GivesC w (parseB s)) := by
  have HS := Lib.hid (split_two s hs w hV h 1 rfl)
  have HL := Lib.hid (words_len hs h)
  have HSZ := Lib.hid (words_sz hs h)
  have HV := Lib.hid hV
  obtain ⟨O, hO0⟩ : ∃ O, O = parseB s := ⟨_, rfl⟩
  have HO := Lib.hid (hO0.trans (parse_words h))
  have HH := Lib.hid h
  rw [← hO0]
  clear hO0 hV h
  have NC := Lib.hid (fun W => isName_any r0 W)
  unfold dropW at HS
  cases hn : isNameB r0 with
  | true =>
    rw [hn] at NC
    have HOL : Hid (O = some (.drop r0)) := Lib.hid (by rw [HO.out, line_drop, hn]; rfl)
    clear hn
    go_enter Tryz.func54, Tryz.ntmps54
    go_wp2_with fail
    refine HS.out.mono ?_
    rintro e w1 ⟨rfl, hr1, hb1⟩
    have c0 : w1.cell? ⟨w.heap.size, 1, none⟩ = some (.string r0) := hr1 0 (by simp)
    have HR1 := Lib.hid hr1
    have HB1 := Lib.hid hb1
    clear hr1 hb1
    go_wp2_with fail
    refine (NC.out _).mono ?_
    rintro e w2 ⟨rfl, hb2⟩
    have c2 := keep_cell hb2 c0
    have HB2 := Lib.hid (below_trans HB1.out hb2)
    clear hb2
    go_wp2
    go_ret
    exact ⟨⟨_, rfl, by rw [HOL.out]; rfl⟩, HB2.out⟩
  | false =>
    rw [hn] at NC
    have HOL : Hid (O = none) := Lib.hid (by rw [HO.out, line_drop, hn]; rfl)
    clear hn
    go_enter Tryz.func54, Tryz.ntmps54
    go_wp2_with fail
    refine HS.out.mono ?_
    rintro e w1 ⟨rfl, hr1, hb1⟩
    have c0 : w1.cell? ⟨w.heap.size, 1, none⟩ = some (.string r0) := hr1 0 (by simp)
    have HR1 := Lib.hid hr1
    have HB1 := Lib.hid hb1
    clear hr1 hb1
    go_wp2_with fail
    refine (NC.out _).mono ?_
    rintro e w2 ⟨rfl, hb2⟩
    have HB2 := Lib.hid (below_trans HB1.out hb2)
    clear hb2
    go_wp2
    go_ret
    exact ⟨⟨_, rfl, by rw [HOL.out]; rfl⟩, HB2.out⟩
set_option maxHeartbeats 2000000 in
theorem parse_stock_many (s : ByteArray) (hs : s.size ≤ 1000000) (w : World) (hV : Vars w) {r0 : ByteArray} {rs : List ByteArray} (h : splitA 32 s = stockW :: r0 :: rs) (hr : rs ≠ []) :
    Calls Tryz.prog 54 #[.string s] w (GivesC w (parseB s)) := by
  have hm : 1 ≤ rs.length := List.length_pos_iff.2 hr
  have HR0 := Lib.hid hr
  clear hr
  have HS := Lib.hid (split_two s hs w hV h (rs.length + 1) rfl)
  have HL := Lib.hid (words_len hs h)
  have HSZ := Lib.hid (words_sz hs h)
  have HV := Lib.hid hV
  obtain ⟨O, hO0⟩ : ∃ O, O = parseB s := ⟨_, rfl⟩
  have HO := Lib.hid (hO0.trans (parse_words h))
  have HH := Lib.hid h
  rw [← hO0]
  clear hO0 hV h
  have HOL : Hid (O = none) := Lib.hid (by rw [HO.out, line_stock, decide_eq_false HR0.out]; rfl)
  have hL := HL.out
  have z1 : ((rs.length : Int) + 1 == 0) = false := by simp; omega
  have z2 : ((rs.length : Int) + 1 != 1) = true := by simp; omega
  unfold stockW at HS
  go_enter Tryz.func54, Tryz.ntmps54
  go_wp2_with fail
  refine HS.out.mono ?_
  rintro e w1 ⟨rfl, hr1, hb1⟩
  have c0 : w1.cell? ⟨w.heap.size, 1, none⟩ = some (.string r0) := hr1 0 (by simp)
  have HR1 := Lib.hid hr1
  have HB1 := Lib.hid hb1
  clear hr1 hb1
  go_wp2
  go_ret
  exact ⟨⟨_, rfl, by rw [HOL.out]; rfl⟩, HB1.out⟩
set_option maxHeartbeats 2000000 in
theorem parse_stock_one (s : ByteArray) (hs : s.size ≤ 1000000) (w : World) (hV : Vars w) {r0 : ByteArray} (h : splitA 32 s = [stockW, r0]) :
    Calls Tryz.prog 54 #[.string s] w (GivesC w (parseB s)) := by
  have HS := Lib.hid (split_two s hs w hV h 1 rfl)
  have HL := Lib.hid (words_len hs h)
  have HSZ := Lib.hid (words_sz hs h)
  have HV := Lib.hid hV
  obtain ⟨O, hO0⟩ : ∃ O, O = parseB s := ⟨_, rfl⟩
  have HO := Lib.hid (hO0.trans (parse_words h))
  have HH := Lib.hid h
  rw [← hO0]
  clear hO0 hV h
  have NC := Lib.hid (fun W => isName_any r0 W)
  unfold stockW at HS
  cases hn : isNameB r0 with
  | true =>
    rw [hn] at NC
    have HOL : Hid (O = some (.stock r0)) := Lib.hid (by rw [HO.out, line_stock, hn]; rfl)
    clear hn
    go_enter Tryz.func54, Tryz.ntmps54
    go_wp2_with fail
    refine HS.out.mono ?_
    rintro e w1 ⟨rfl, hr1, hb1⟩
    have c0 : w1.cell? ⟨w.heap.size, 1, none⟩ = some (.string r0) := hr1 0 (by simp)
    have HR1 := Lib.hid hr1
    have HB1 := Lib.hid hb1
    clear hr1 hb1
    go_wp2_with fail
    refine (NC.out _).mono ?_
    rintro e w2 ⟨rfl, hb2⟩
    have c2 := keep_cell hb2 c0
    have HB2 := Lib.hid (below_trans HB1.out hb2)
    clear hb2
    go_wp2
    go_ret
    exact ⟨⟨_, rfl, by rw [HOL.out]; rfl⟩, HB2.out⟩
  | false =>
    rw [hn] at NC
    have HOL : Hid (O = none) := Lib.hid (by rw [HO.out, line_stock, hn]; rfl)
    clear hn
    go_enter Tryz.func54, Tryz.ntmps54
    go_wp2_with fail
    refine HS.out.mono ?_
    rintro e w1 ⟨rfl, hr1, hb1⟩
    have c0 : w1.cell? ⟨w.heap.size, 1, none⟩ = some (.string r0) := hr1 0 (by simp)
    have HR1 := Lib.hid hr1
    have HB1 := Lib.hid hb1
    clear hr1 hb1
    go_wp2_with fail
    refine (NC.out _).mono ?_
    rintro e w2 ⟨rfl, hb2⟩
    have HB2 := Lib.hid (below_trans HB1.out hb2)
    clear hb2
    go_wp2
    go_ret
    exact ⟨⟨_, rfl, by rw [HOL.out]; rfl⟩, HB2.out⟩
/-! ### put -/
theorem line_put {r0 s : ByteArray} {rs : List ByteArray} : lineB1 putW r0 rs s = if isNameB r0 && !(joinS rs).data.toList.isEmpty && isLineB s then some (.put r0 (joinS rs)) else none := rfl
set_option maxHeartbeats 2000000 in
theorem parse_put_one (s : ByteArray) (hs : s.size ≤ 1000000) (w : World) (hV : Vars w) {r0 : ByteArray} (h : splitA 32 s = [putW, r0]) :
    Calls Tryz.prog 54 #[.string s] w (GivesC w (parseB s)) := by
  have HS := Lib.hid (split_two s hs w hV h 1 rfl)
  have HL := Lib.hid (words_len hs h)
  have HSZ := Lib.hid (words_sz hs h)
  have HV := Lib.hid hV
  obtain ⟨O, hO0⟩ : ∃ O, O = parseB s := ⟨_, rfl⟩
  have HO := Lib.hid (hO0.trans (parse_words h))
  have HH := Lib.hid h
  rw [← hO0]
  clear hO0 hV h
  have NC := Lib.hid (fun W => isName_any r0 W)
  have HOL : Hid (O = none) := Lib.hid (by rw [HO.out, line_put]; simp [joinS, bsB, Lib.join_nil])
  unfold putW at HS
  obtain ⟨q, hq⟩ : ∃ q, q = isNameB r0 := ⟨_, rfl⟩
  rw [← hq] at NC
  clear hq
  cases q with
  | true =>
    go_enter Tryz.func54, Tryz.ntmps54
    go_wp2_with fail
    refine HS.out.mono ?_
    rintro e w1 ⟨rfl, hr1, hb1⟩
    have c0 : w1.cell? ⟨w.heap.size, 1, none⟩ = some (.string r0) := hr1 0 (by simp)
    have HR1 := Lib.hid hr1
    have HB1 := Lib.hid hb1
    clear hr1 hb1
    go_wp2_with fail
    refine (Tryz.strings_Join_none _ _ _ _).mono ?_
    rintro e w2 ⟨rfl, hw2⟩
    obtain rfl : w2 = w1 := hw2
    go_wp2_with fail
    refine (NC.out _).mono ?_
    rintro e w3 ⟨rfl, hb2⟩
    have HB2 := Lib.hid (below_trans HB1.out hb2)
    clear hb2
    go_wp2
    go_ret
    exact ⟨⟨_, rfl, by rw [HOL.out]; rfl⟩, HB2.out⟩
  | false =>
    go_enter Tryz.func54, Tryz.ntmps54
    go_wp2_with fail
    refine HS.out.mono ?_
    rintro e w1 ⟨rfl, hr1, hb1⟩
    have c0 : w1.cell? ⟨w.heap.size, 1, none⟩ = some (.string r0) := hr1 0 (by simp)
    have HR1 := Lib.hid hr1
    have HB1 := Lib.hid hb1
    clear hr1 hb1
    go_wp2_with fail
    refine (Tryz.strings_Join_none _ _ _ _).mono ?_
    rintro e w2 ⟨rfl, hw2⟩
    obtain rfl : w2 = w1 := hw2
    go_wp2_with fail
    refine (NC.out _).mono ?_
    rintro e w3 ⟨rfl, hb2⟩
    have HB2 := Lib.hid (below_trans HB1.out hb2)
    clear hb2
    go_wp2
    go_ret
    exact ⟨⟨_, rfl, by rw [HOL.out]; rfl⟩, HB2.out⟩
/-- strings.Join of words. -/
theorem join_rest (b off : Nat) (l : List ByteArray) (w : World) (h : RestAt w b off l) (h0 : 0 < l.length) (hl : l.length ≤ 1000000) (hlen : (joinS l).size ≤ 1000000) :
    Calls Tryz.prog 85 #[.slice (some ⟨b, off, none⟩) l.length l.length, .string ⟨#[32]⟩] w fun e w' => e = .returned (.string (joinS l)) ∧ Below w.heap.size w w' := by
  refine Tryz.strings_Join b off l.length l ⟨#[32]⟩ w (fun j x hx => ?_) (World.block_lt_of_cell? _ _ (h 0 h0)) (by omega) (Nat.le_refl _) ?_
  · obtain ⟨hj, rfl⟩ := List.getElem?_eq_some_iff.1 hx
    rw [h j hj, List.getD_eq_getElem?_getD, List.getElem?_eq_getElem hj]
    rfl
  · rw [ba_size] at hlen
    have : (joinS l).data.toList = Lib.join (l.map (·.data.toList)) [32] := rfl
    rw [this] at hlen
    show (Lib.join (l.map (·.data.toList)) [32]).length ≤ _
    omega
theorem join_size {s w0 r0 : ByteArray} {rs : List ByteArray} (hs : s.size ≤ 1000000) (h : splitA 32 s = w0 :: r0 :: rs) (hr : rs ≠ []) : (joinS rs).size ≤ 1000000 := by
  have h1 := splitA_cons h (by simp)
  obtain ⟨r1, rs', rfl⟩ : ∃ a b, rs = a :: b := by cases rs with | nil => exact absurd rfl hr | cons a b => exact ⟨a, b, rfl⟩
  rw [joinS_cons] at h1
  have h2 := congrArg List.length h1
  simp only [List.length_append, List.length_cons] at h2
  rw [ba_size] at hs ⊢
  omega
set_option maxRecDepth 100000 in
set_option maxHeartbeats 4000000 in
theorem parse_put_many (s : ByteArray) (hs : s.size ≤ 1000000) (w : World) (hV : Vars w) {r0 : ByteArray} {rs : List ByteArray} (h : splitA 32 s = putW :: r0 :: rs) (hr : rs ≠ []) :
    Calls Tryz.prog 54 #[.string s] w (GivesC w (parseB s)) := by
  obtain ⟨k, hk⟩ : ∃ k, rs.length = k + 1 := ⟨rs.length - 1, by have := List.length_pos_iff.2 hr; omega⟩
  have HK := Lib.hid hk
  have HJ0 := Lib.hid (join_size hs h hr)
  have hL : k + 1 ≤ 1000000 := by have := words_len hs h; omega
  have HS := Lib.hid (split_two s hs w hV h (k + 2) (by omega))
  have HL := Lib.hid (words_len hs h)
  have HSZ := Lib.hid (words_sz hs h)
  have HV := Lib.hid hV
  obtain ⟨O, hO0⟩ : ∃ O, O = parseB s := ⟨_, rfl⟩
  have HO := Lib.hid (hO0.trans (parse_words h))
  have HH := Lib.hid h
  rw [← hO0]
  clear hO0 hV h
  have z1 : ((k : Int) + 2 == 0) = false := by simp; omega
  clear hr hk
  have NC := Lib.hid (fun W => isName_any r0 W)
  have LC := Lib.hid (fun W => isLine_any s W)
  have HJ := Lib.hid (fun W (hW : RestAt W w.heap.size 2 rs) => join_rest w.heap.size 2 rs W hW (by rw [HK.out]; omega) (by rw [HK.out]; omega) HJ0.out)
  rw [HK.out] at HJ
  unfold putW at HS
  have HOL : Hid (O = if isNameB r0 && !(joinS rs).data.toList.isEmpty && isLineB s then some (.put r0 (joinS rs)) else none) := Lib.hid (by rw [HO.out, line_put])
  clear HO HH
  generalize joinS rs = js at *
  obtain ⟨q, hq⟩ : ∃ q, q = isNameB r0 := ⟨_, rfl⟩
  rw [← hq] at NC HOL
  clear hq
  obtain ⟨p, hp⟩ : ∃ q, q = isLineB s := ⟨_, rfl⟩
  rw [← hp] at LC HOL
  clear hp
  cases q with
  | false =>
    have HOX : Hid (O = none) := Lib.hid (by rw [HOL.out]; rfl)
    go_enter Tryz.func54, Tryz.ntmps54
    go_wp2_with fail
    refine HS.out.mono ?_
    rintro e w1 ⟨rfl, hr1, hb1⟩
    have c0 : w1.cell? ⟨w.heap.size, 1, none⟩ = some (.string r0) := hr1 0 (by simp)
    have HR1 := Lib.hid hr1
    have HB1 := Lib.hid hb1
    clear hr1 hb1
    go_wp2_with fail
    refine (HJ.out w1 ((HR1.out.drop 1))).mono ?_
    rintro e w2 ⟨rfl, hb2⟩
    have c2 := keep_cell hb2 c0
    have HB2 := Lib.hid (below_trans HB1.out hb2)
    clear hb2
    go_wp2_with fail
    refine (NC.out _).mono ?_
    rintro e w3 ⟨rfl, hb3⟩
    have c3 := keep_cell hb3 c2
    have HB3 := Lib.hid (below_trans HB2.out hb3)
    clear hb3
    go_wp2
    go_ret
    exact ⟨⟨_, rfl, by rw [HOX.out]; rfl⟩, HB3.out⟩
  | true =>
    by_cases he : js.toList = []
    · have HOX : Hid (O = none) := Lib.hid (by rw [HOL.out, ← ba_list, he]; rfl)
      have he2 : js.toList.isEmpty = true := by rw [he]; rfl
      go_enter Tryz.func54, Tryz.ntmps54
      go_wp2_with fail
      refine HS.out.mono ?_
      rintro e w1 ⟨rfl, hr1, hb1⟩
      have c0 : w1.cell? ⟨w.heap.size, 1, none⟩ = some (.string r0) := hr1 0 (by simp)
      have HR1 := Lib.hid hr1
      have HB1 := Lib.hid hb1
      clear hr1 hb1
      go_wp2_with fail
      refine (HJ.out w1 ((HR1.out.drop 1))).mono ?_
      rintro e w2 ⟨rfl, hb2⟩
      have c2 := keep_cell hb2 c0
      have HB2 := Lib.hid (below_trans HB1.out hb2)
      clear hb2
      go_wp2_with fail
      refine (NC.out _).mono ?_
      rintro e w3 ⟨rfl, hb3⟩
      have c3 := keep_cell hb3 c2
      have HB3 := Lib.hid (below_trans HB2.out hb3)
      clear hb3
      go_wp2
      go_ret
      exact ⟨⟨_, rfl, by rw [HOX.out]; rfl⟩, HB3.out⟩
    · have he2 : js.toList.isEmpty = false := by simpa using he
      have he3 : (!js.toList.isEmpty) = true := by rw [he2]; rfl
      have HE3 := Lib.hid he2
      cases p with
      | false =>
        have HOX : Hid (O = none) := Lib.hid (by rw [HOL.out]; simp)
        go_enter Tryz.func54, Tryz.ntmps54
        go_wp2_with fail
        refine HS.out.mono ?_
        rintro e w1 ⟨rfl, hr1, hb1⟩
        have c0 : w1.cell? ⟨w.heap.size, 1, none⟩ = some (.string r0) := hr1 0 (by simp)
        have HR1 := Lib.hid hr1
        have HB1 := Lib.hid hb1
        clear hr1 hb1
        go_wp2_with fail
        refine (HJ.out w1 ((HR1.out.drop 1))).mono ?_
        rintro e w2 ⟨rfl, hb2⟩
        have c2 := keep_cell hb2 c0
        have HB2 := Lib.hid (below_trans HB1.out hb2)
        clear hb2
        go_wp2_with fail
        refine (NC.out _).mono ?_
        rintro e w3 ⟨rfl, hb3⟩
        have c3 := keep_cell hb3 c2
        have HB3 := Lib.hid (below_trans HB2.out hb3)
        clear hb3
        go_wp2_with fail
        refine (LC.out _).mono ?_
        rintro e w4 ⟨rfl, hb4⟩
        have HB4 := Lib.hid (below_trans HB3.out hb4)
        clear hb4
        go_wp2
        go_ret
        exact ⟨⟨_, rfl, by rw [HOX.out]; rfl⟩, HB4.out⟩
      | true =>
        have HOX : Hid (O = some (.put r0 js)) := Lib.hid (by rw [HOL.out, ← ba_list, HE3.out]; rfl)
        go_enter Tryz.func54, Tryz.ntmps54
        go_wp2_with fail
        refine HS.out.mono ?_
        rintro e w1 ⟨rfl, hr1, hb1⟩
        have c0 : w1.cell? ⟨w.heap.size, 1, none⟩ = some (.string r0) := hr1 0 (by simp)
        have HR1 := Lib.hid hr1
        have HB1 := Lib.hid hb1
        clear hr1 hb1
        go_wp2_with fail
        refine (HJ.out w1 ((HR1.out.drop 1))).mono ?_
        rintro e w2 ⟨rfl, hb2⟩
        have c2 := keep_cell hb2 c0
        have HB2 := Lib.hid (below_trans HB1.out hb2)
        clear hb2
        go_wp2_with fail
        refine (NC.out _).mono ?_
        rintro e w3 ⟨rfl, hb3⟩
        have c3 := keep_cell hb3 c2
        have HB3 := Lib.hid (below_trans HB2.out hb3)
        clear hb3
        go_wp2_with fail
        refine (LC.out _).mono ?_
        rintro e w4 ⟨rfl, hb4⟩
        have c4 := keep_cell hb4 c3
        have HB4 := Lib.hid (below_trans HB3.out hb4)
        clear hb4
        go_wp2
        go_ret
        exact ⟨⟨_, rfl, by rw [HOX.out]; rfl⟩, HB4.out⟩
/-! ### add -/
def addO (r0 : ByteArray) (o : Option (List Int)) : Option Cmd := match o with
  | some [n] => if isNameB r0 then some (.add r0 n) else none
  | _ => none
theorem line_add {r0 s : ByteArray} {rs : List ByteArray} : lineB1 addW r0 rs s = addO r0 (allS numV rs) := rfl
set_option maxHeartbeats 2000000 in
theorem parse_add_one (s : ByteArray) (hs : s.size ≤ 1000000) (w : World) (hV : Vars w) {r0 : ByteArray} (h : splitA 32 s = [addW, r0]) :
    Calls Tryz.prog 54 #[.string s] w (GivesC w (parseB s)) := by
  have HS := Lib.hid (split_two s hs w hV h 1 rfl)
  have HL := Lib.hid (words_len hs h)
  have HSZ := Lib.hid (words_sz hs h)
  have HV := Lib.hid hV
  obtain ⟨O, hO0⟩ : ∃ O, O = parseB s := ⟨_, rfl⟩
  have HO := Lib.hid (hO0.trans (parse_words h))
  have HH := Lib.hid h
  rw [← hO0]
  clear hO0 hV h
  have HOL : Hid (O = none) := Lib.hid (by rw [HO.out, line_add]; rfl)
  unfold addW at HS
  go_enter Tryz.func54, Tryz.ntmps54
  go_wp2_with fail
  refine HS.out.mono ?_
  rintro e w1 ⟨rfl, hr1, hb1⟩
  have c0 : w1.cell? ⟨w.heap.size, 1, none⟩ = some (.string r0) := hr1 0 (by simp)
  have HR1 := Lib.hid hr1
  have HB1 := Lib.hid hb1
  clear hr1 hb1
  go_wp2_with fail
  refine (numbers_any (.slice (some ⟨w.heap.size, 1, none⟩) 0 0) [] (by simp) (by simp) w1 (strs_empty _ _ 0 (by omega)) (HV.out.below HB1.out)).mono ?_
  rintro e w2 ⟨⟨v, rfl, ho⟩, hb2⟩
  obtain ⟨va, vc, rfl⟩ := own_shape ho
  have HB2 := Lib.hid (below_trans HB1.out hb2)
  clear ho hb2
  go_wp2
  go_ret
  exact ⟨⟨_, rfl, by rw [HOL.out]; rfl⟩, HB2.out⟩
theorem ints_first {w : World} {v : Value} {n : Int} (h : IntsAt w v [n]) : ∃ b off cap, v = .slice (some ⟨b, off, none⟩) 1 cap ∧ w.cell? ⟨b, off, none⟩ = some (.int .i64 n) := by
  obtain ⟨a, cap, rfl, _, hq⟩ := h
  obtain ⟨b, off, rfl, hc⟩ := hq (by simp)
  exact ⟨b, off, cap, rfl, hc 0 (by simp)⟩
set_option maxRecDepth 100000 in
set_option maxHeartbeats 4000000 in
theorem parse_add_many (s : ByteArray) (hs : s.size ≤ 1000000) (w : World) (hV : Vars w) {r0 : ByteArray} {rs : List ByteArray} (h : splitA 32 s = addW :: r0 :: rs) (hr : rs ≠ []) :
    Calls Tryz.prog 54 #[.string s] w (GivesC w (parseB s)) := by
  obtain ⟨k, hk⟩ : ∃ k, rs.length = k + 1 := ⟨rs.length - 1, by have := List.length_pos_iff.2 hr; omega⟩
  have HK := Lib.hid hk
  have hL : k + 1 ≤ 1000000 := by have := words_len hs h; omega
  have HS := Lib.hid (split_two s hs w hV h (k + 2) (by omega))
  have HL := Lib.hid (words_len hs h)
  have HSZ := Lib.hid (words_sz hs h)
  have HV := Lib.hid hV
  obtain ⟨O, hO0⟩ : ∃ O, O = parseB s := ⟨_, rfl⟩
  have HO := Lib.hid (hO0.trans (parse_words h))
  have HH := Lib.hid h
  rw [← hO0]
  clear hO0 hV h
  have z1 : ((k : Int) + 2 == 0) = false := by simp; omega
  clear hr hk
  have NC := Lib.hid (fun W => isName_any r0 W)
  have HN := Lib.hid (fun W (hW : RestAt W w.heap.size 1 (r0 :: rs)) (hb : Below w.heap.size w W) => numbers_any _ rs (by rw [HK.out]; omega) (fun x hx => HSZ.out x (by simp [hx])) W ((hW.drop 1).strs (by show rs.length ≤ _; rw [HK.out]; omega)) (HV.out.below hb))
  have hd1 : ((r0 :: rs).drop 1).length = k + 1 := HK.out
  rw [hd1] at HN
  clear hd1
  unfold addW at HS
  have HOL : Hid (O = addO r0 (allS numV rs)) := Lib.hid (by rw [HO.out, line_add])
  clear HO HH
  cases hx : allS numV rs with
  | none =>
    rw [hx] at HOL HN
    clear hx
    go_enter Tryz.func54, Tryz.ntmps54
    go_wp2_with fail
    refine HS.out.mono ?_
    rintro e w1 ⟨rfl, hr1, hb1⟩
    have c0 : w1.cell? ⟨w.heap.size, 1, none⟩ = some (.string r0) := hr1 0 (by simp)
    have HR1 := Lib.hid hr1
    have HB1 := Lib.hid hb1
    clear hr1 hb1
    go_wp2_with fail
    refine (HN.out w1 HR1.out HB1.out).mono ?_
    rintro e w2 ⟨rfl, hb2⟩
    have HB2 := Lib.hid (below_trans HB1.out hb2)
    clear hb2
    go_wp2
    go_ret
    exact ⟨⟨_, rfl, by rw [HOL.out]; rfl⟩, HB2.out⟩
  | some ns =>
    rw [hx] at HOL HN
    have hnl := allS_len _ _ _ hx
    rw [HK.out] at hnl
    clear hx
    by_cases h1 : k = 0
    · subst h1
      obtain ⟨n, rfl⟩ : ∃ n, ns = [n] := by
        match ns, hnl with
        | [n], _ => exact ⟨n, rfl⟩
      obtain ⟨q, hq⟩ : ∃ q, q = isNameB r0 := ⟨_, rfl⟩
      have HOX : Hid (O = if q then some (.add r0 n) else none) := Lib.hid (by rw [HOL.out, hq]; rfl)
      rw [← hq] at NC
      clear hq hnl HOL
      cases q with
      | true =>
        go_enter Tryz.func54, Tryz.ntmps54
        go_wp2_with fail
        refine HS.out.mono ?_
        rintro e w1 ⟨rfl, hr1, hb1⟩
        have c0 : w1.cell? ⟨w.heap.size, 1, none⟩ = some (.string r0) := hr1 0 (by simp)
        have HR1 := Lib.hid hr1
        have HB1 := Lib.hid hb1
        clear hr1 hb1
        go_wp2_with fail
        refine (HN.out w1 HR1.out HB1.out).mono ?_
        rintro e w2 ⟨⟨v, rfl, ho⟩, hb2⟩
        obtain ⟨vb, vo, vc, rfl, hvc⟩ := ints_first (ints_own ho (by simp))
        have c2 := keep_cell hb2 c0
        have HB2 := Lib.hid (below_trans HB1.out hb2)
        clear ho hb2
        go_wp2_with fail
        refine (NC.out _).mono ?_
        rintro e w3 ⟨rfl, hb3⟩
        have c3 := keep_cell hb3 c2
        have d3 := keep_cell hb3 hvc
        have HB3 := Lib.hid (below_trans HB2.out hb3)
        clear hb3
        go_wp2
        go_quiet (fail)
        all_goals go_wp2
        go_ret
        exact ⟨⟨_, rfl, by rw [HOX.out]; rfl⟩, below_drewN HB3.out _⟩
      | false =>
        go_enter Tryz.func54, Tryz.ntmps54
        go_wp2_with fail
        refine HS.out.mono ?_
        rintro e w1 ⟨rfl, hr1, hb1⟩
        have c0 : w1.cell? ⟨w.heap.size, 1, none⟩ = some (.string r0) := hr1 0 (by simp)
        have HR1 := Lib.hid hr1
        have HB1 := Lib.hid hb1
        clear hr1 hb1
        go_wp2_with fail
        refine (HN.out w1 HR1.out HB1.out).mono ?_
        rintro e w2 ⟨⟨v, rfl, ho⟩, hb2⟩
        obtain ⟨vb, vo, vc, rfl, hvc⟩ := ints_first (ints_own ho (by simp))
        have c2 := keep_cell hb2 c0
        have HB2 := Lib.hid (below_trans HB1.out hb2)
        clear ho hb2
        go_wp2_with fail
        refine (NC.out _).mono ?_
        rintro e w3 ⟨rfl, hb3⟩
        have HB3 := Lib.hid (below_trans HB2.out hb3)
        clear hb3
        go_wp2
        go_ret
        exact ⟨⟨_, rfl, by rw [HOX.out]; rfl⟩, HB3.out⟩
    · have z2 : ((k : Int) + 1 == 1) = false := by simp; omega
      have HOX : Hid (O = none) := Lib.hid (by
        rw [HOL.out]
        match ns, hnl with
        | [], _ => rfl
        | [n], hnl => exact absurd (by simpa using hnl.symm) h1
        | n :: m :: r, _ => rfl)
      have HNL := Lib.hid hnl
      clear h1 hnl HOL
      go_enter Tryz.func54, Tryz.ntmps54
      go_wp2_with fail
      refine HS.out.mono ?_
      rintro e w1 ⟨rfl, hr1, hb1⟩
      have c0 : w1.cell? ⟨w.heap.size, 1, none⟩ = some (.string r0) := hr1 0 (by simp)
      have HR1 := Lib.hid hr1
      have HB1 := Lib.hid hb1
      clear hr1 hb1
      go_wp2_with fail
      refine (HN.out w1 HR1.out HB1.out).mono ?_
      rintro e w2 ⟨⟨v, rfl, ho⟩, hb2⟩
      obtain ⟨va, vc, rfl⟩ := own_shape ho
      rw [HNL.out] at *
      have HB2 := Lib.hid (below_trans HB1.out hb2)
      clear ho hb2
      go_wp2
      go_ret
      exact ⟨⟨_, rfl, by rw [HOX.out]; rfl⟩, HB2.out⟩
/-! ### share -/
def shareO (o : Option Int) (all : Bool) (n : Nat) (rs : List ByteArray) : Option Cmd := match o with
  | some x => if all && betw 1 n 8 then some (.share x rs) else none
  | none => none
theorem line_share {r0 s : ByteArray} {rs : List ByteArray} : lineB1 shareW r0 rs s = shareO (numV r0) (rs.all isNameB) rs.length rs := rfl
def GivesNs1 (w : World) (o : Option Int) (e : Ending) (w' : World) : Prop :=
  (match o with
    | some n => ∃ b off cap, e = .returned (.tuple #[.slice (some ⟨b, off, none⟩) 1 cap, .bool true]) ∧ w'.cell? ⟨b, off, none⟩ = some (.int .i64 n)
    | none => e = .returned (.tuple #[.slice none 0 0, .bool false])) ∧ Below w.heap.size w w'
theorem numbers_one (x : ByteArray) (hx : x.size ≤ 281474976710656) (v : Value) (w : World) (hv : StrsAt w v [x]) (hV : Vars w) : Calls Tryz.prog 88 #[v] w (GivesNs1 w (numV x)) := by
  have h := numbers_any v [x] (by simp) (by simpa using hx) w hv hV
  refine h.mono ?_
  rintro e w' ⟨h1, hb⟩
  refine ⟨?_, hb⟩
  cases hn : numV x with
  | none => simpa [allS, hn] using h1
  | some n =>
    simp only [allS, hn] at h1
    obtain ⟨v', rfl, ho⟩ := h1
    obtain ⟨b, off, cap, rfl, hc⟩ := ints_first (ints_own ho (by simp))
    exact ⟨b, off, cap, rfl, hc⟩
set_option maxRecDepth 100000 in
set_option maxHeartbeats 4000000 in
theorem parse_share_one (s : ByteArray) (hs : s.size ≤ 1000000) (w : World) (hV : Vars w) {r0 : ByteArray} (h : splitA 32 s = [shareW, r0]) :
    Calls Tryz.prog 54 #[.string s] w (GivesC w (parseB s)) := by
  have HS := Lib.hid (split_two s hs w hV h 1 rfl)
  have HL := Lib.hid (words_len hs h)
  have HSZ := Lib.hid (words_sz hs h)
  have HV := Lib.hid hV
  obtain ⟨O, hO0⟩ : ∃ O, O = parseB s := ⟨_, rfl⟩
  have HO := Lib.hid (hO0.trans (parse_words h))
  have HH := Lib.hid h
  rw [← hO0]
  clear hO0 hV h
  have HN := Lib.hid (fun W (hW : RestAt W w.heap.size 1 [r0]) (hb : Below w.heap.size w W) => numbers_one r0 (HSZ.out r0 (by simp)) _ W (hW.strs (by simp)) (HV.out.below hb))
  rw [show ([r0] : List ByteArray).length = 1 from rfl] at HN
  have HM := Lib.hid (fun W => names_any (.slice (some ⟨w.heap.size, 1, none⟩) 0 0) [] W (strs_empty _ _ 0 (by omega)))
  rw [show ([] : List ByteArray).all isNameB = true from rfl] at HM
  unfold pickV at HM
  have hbt : betw 1 0 8 = false := by decide
  have HBT := Lib.hid hbt
  have HOL : Hid (O = none) := Lib.hid (by rw [HO.out, line_share]; unfold shareO; cases numV r0 with | none => rfl | some x => rw [show (([] : List ByteArray).length : Int) = 0 from rfl, HBT.out]; simp)
  unfold shareW at HS
  clear HO HH hbt
  cases hx : numV r0 with
  | none =>
    rw [hx] at HN
    clear hx
    go_enter Tryz.func54, Tryz.ntmps54
    go_wp2_with fail
    refine HS.out.mono ?_
    rintro e w1 ⟨rfl, hr1, hb1⟩
    have c0 : w1.cell? ⟨w.heap.size, 1, none⟩ = some (.string r0) := hr1 0 (by simp)
    have HR1 := Lib.hid hr1
    have HB1 := Lib.hid hb1
    clear hr1 hb1
    go_wp2_with fail
    refine (HN.out w1 HR1.out HB1.out).mono ?_
    rintro e w2 ⟨rfl, hb2⟩
    have HB2 := Lib.hid (below_trans HB1.out hb2)
    clear hb2
    go_wp2_with fail
    refine (HM.out _).mono ?_
    rintro e w3 ⟨rfl, hb3⟩
    have HB3 := Lib.hid (below_trans HB2.out hb3)
    clear hb3
    go_wp2
    go_ret
    exact ⟨⟨_, rfl, by rw [HOL.out]; rfl⟩, HB3.out⟩
  | some n =>
    rw [hx] at HN
    clear hx
    go_enter Tryz.func54, Tryz.ntmps54
    go_wp2_with fail
    refine HS.out.mono ?_
    rintro e w1 ⟨rfl, hr1, hb1⟩
    have c0 : w1.cell? ⟨w.heap.size, 1, none⟩ = some (.string r0) := hr1 0 (by simp)
    have HR1 := Lib.hid hr1
    have HB1 := Lib.hid hb1
    clear hr1 hb1
    go_wp2_with fail
    refine (HN.out w1 HR1.out HB1.out).mono ?_
    rintro e w2 ⟨⟨b, off, cap, rfl, hc⟩, hb2⟩
    have HB2 := Lib.hid (below_trans HB1.out hb2)
    clear hb2
    go_wp2_with fail
    refine (HM.out _).mono ?_
    rintro e w3 ⟨rfl, hb3⟩
    have HB3 := Lib.hid (below_trans HB2.out hb3)
    clear hb3
    go_wp2_with fail
    refine (between_any _ _ _ _).mono ?_
    rintro e w4 ⟨rfl, rfl⟩
    rw [HBT.out]
    go_wp2
    go_ret
    exact ⟨⟨_, rfl, by rw [HOL.out]; rfl⟩, HB3.out⟩
set_option maxRecDepth 100000 in
set_option maxHeartbeats 4000000 in
theorem parse_share_many (s : ByteArray) (hs : s.size ≤ 1000000) (w : World) (hV : Vars w) {r0 : ByteArray} {rs : List ByteArray} (h : splitA 32 s = shareW :: r0 :: rs) (hr : rs ≠ []) :
    Calls Tryz.prog 54 #[.string s] w (GivesC w (parseB s)) := by
  obtain ⟨k, hk⟩ : ∃ k, rs.length = k + 1 := ⟨rs.length - 1, by have := List.length_pos_iff.2 hr; omega⟩
  have HK := Lib.hid hk
  have hL : k + 1 ≤ 1000000 := by have := words_len hs h; omega
  have HS := Lib.hid (split_two s hs w hV h (k + 2) (by omega))
  have HL := Lib.hid (words_len hs h)
  have HSZ := Lib.hid (words_sz hs h)
  have HV := Lib.hid hV
  obtain ⟨O, hO0⟩ : ∃ O, O = parseB s := ⟨_, rfl⟩
  have HO := Lib.hid (hO0.trans (parse_words h))
  have HH := Lib.hid h
  rw [← hO0]
  clear hO0 hV h
  have z1 : ((k : Int) + 2 == 0) = false := by simp; omega
  clear hr hk
  have HN := Lib.hid (fun W (hW : RestAt W w.heap.size 1 (r0 :: rs)) (hb : Below w.heap.size w W) => numbers_one r0 (HSZ.out r0 (by simp)) _ W (hW.take 1 (by simp) (by rw [List.length_cons, HK.out]; omega)) (HV.out.below hb))
  rw [show (r0 :: rs).length = k + 2 by rw [List.length_cons, HK.out]] at HN
  have HM := Lib.hid (fun W (hW : RestAt W w.heap.size 1 (r0 :: rs)) => names_any _ rs W ((hW.drop 1).strs (by show rs.length ≤ _; rw [HK.out]; omega)))
  have hd1 : ((r0 :: rs).drop 1).length = k + 1 := HK.out
  rw [hd1] at HM
  clear hd1
  unfold shareW at HS
  have HOL : Hid (O = shareO (numV r0) (rs.all isNameB) (k + 1) rs) := Lib.hid (by rw [HO.out, line_share, HK.out])
  clear HO HH
  obtain ⟨q, hq⟩ : ∃ q, q = rs.all isNameB := ⟨_, rfl⟩
  rw [← hq] at HOL HM
  clear hq
  cases hx : numV r0 with
  | none =>
    rw [hx] at HOL HN
    clear hx
    cases q with
    | true =>
      unfold pickV at HM
      go_enter Tryz.func54, Tryz.ntmps54
      go_wp2_with fail
      refine HS.out.mono ?_
      rintro e w1 ⟨rfl, hr1, hb1⟩
      have c0 : w1.cell? ⟨w.heap.size, 1, none⟩ = some (.string r0) := hr1 0 (by simp)
      have HR1 := Lib.hid hr1
      have HB1 := Lib.hid hb1
      clear hr1 hb1
      go_wp2_with fail
      refine (HN.out w1 HR1.out HB1.out).mono ?_
      rintro e w2 ⟨rfl, hb2⟩
      have HR2 := Lib.hid (HR1.out.below hb2)
      have HB2 := Lib.hid (below_trans HB1.out hb2)
      clear hb2
      go_wp2_with fail
      refine (HM.out _ HR2.out).mono ?_
      rintro e w3 ⟨rfl, hb3⟩
      have HB3 := Lib.hid (below_trans HB2.out hb3)
      clear hb3
      go_wp2
      go_ret
      exact ⟨⟨_, rfl, by rw [HOL.out]; rfl⟩, HB3.out⟩
    | false =>
      unfold pickV at HM
      go_enter Tryz.func54, Tryz.ntmps54
      go_wp2_with fail
      refine HS.out.mono ?_
      rintro e w1 ⟨rfl, hr1, hb1⟩
      have c0 : w1.cell? ⟨w.heap.size, 1, none⟩ = some (.string r0) := hr1 0 (by simp)
      have HR1 := Lib.hid hr1
      have HB1 := Lib.hid hb1
      clear hr1 hb1
      go_wp2_with fail
      refine (HN.out w1 HR1.out HB1.out).mono ?_
      rintro e w2 ⟨rfl, hb2⟩
      have HR2 := Lib.hid (HR1.out.below hb2)
      have HB2 := Lib.hid (below_trans HB1.out hb2)
      clear hb2
      go_wp2_with fail
      refine (HM.out _ HR2.out).mono ?_
      rintro e w3 ⟨rfl, hb3⟩
      have HB3 := Lib.hid (below_trans HB2.out hb3)
      clear hb3
      go_wp2
      go_ret
      exact ⟨⟨_, rfl, by rw [HOL.out]; rfl⟩, HB3.out⟩
  | some n =>
    rw [hx] at HOL HN
    clear hx
    cases q with
    | false =>
      unfold pickV at HM
      go_enter Tryz.func54, Tryz.ntmps54
      go_wp2_with fail
      refine HS.out.mono ?_
      rintro e w1 ⟨rfl, hr1, hb1⟩
      have c0 : w1.cell? ⟨w.heap.size, 1, none⟩ = some (.string r0) := hr1 0 (by simp)
      have HR1 := Lib.hid hr1
      have HB1 := Lib.hid hb1
      clear hr1 hb1
      go_wp2_with fail
      refine (HN.out w1 HR1.out HB1.out).mono ?_
      rintro e w2 ⟨⟨b, off, cap, rfl, hc⟩, hb2⟩
      have HR2 := Lib.hid (HR1.out.below hb2)
      have HB2 := Lib.hid (below_trans HB1.out hb2)
      clear hb2
      go_wp2_with fail
      refine (HM.out _ HR2.out).mono ?_
      rintro e w3 ⟨rfl, hb3⟩
      have HB3 := Lib.hid (below_trans HB2.out hb3)
      clear hb3
      go_wp2
      go_ret
      exact ⟨⟨_, rfl, by rw [HOL.out]; rfl⟩, HB3.out⟩
    | true =>
      unfold pickV at HM
      obtain ⟨p, hp⟩ : ∃ p, p = betw 1 ((k : Int) + 1) 8 := ⟨_, rfl⟩
      have HP := Lib.hid hp
      clear hp
      have HOX : Hid (O = if p then some (.share n rs) else none) := Lib.hid (by rw [HOL.out, HP.out]; rfl)
      cases p with
      | false =>
        go_enter Tryz.func54, Tryz.ntmps54
        go_wp2_with fail
        refine HS.out.mono ?_
        rintro e w1 ⟨rfl, hr1, hb1⟩
        have c0 : w1.cell? ⟨w.heap.size, 1, none⟩ = some (.string r0) := hr1 0 (by simp)
        have HR1 := Lib.hid hr1
        have HB1 := Lib.hid hb1
        clear hr1 hb1
        go_wp2_with fail
        refine (HN.out w1 HR1.out HB1.out).mono ?_
        rintro e w2 ⟨⟨b, off, cap, rfl, hc⟩, hb2⟩
        have HR2 := Lib.hid (HR1.out.below hb2)
        have HB2 := Lib.hid (below_trans HB1.out hb2)
        clear hb2
        go_wp2_with fail
        refine (HM.out _ HR2.out).mono ?_
        rintro e w3 ⟨rfl, hb3⟩
        have HB3 := Lib.hid (below_trans HB2.out hb3)
        clear hb3
        go_wp2_with fail
        refine (between_any _ _ _ _).mono ?_
        rintro e w4 ⟨rfl, rfl⟩
        rw [← HP.out]
        go_wp2
        go_ret
        exact ⟨⟨_, rfl, by rw [HOX.out]; rfl⟩, HB3.out⟩
      | true =>
        go_enter Tryz.func54, Tryz.ntmps54
        go_wp2_with fail
        refine HS.out.mono ?_
        rintro e w1 ⟨rfl, hr1, hb1⟩
        have c0 : w1.cell? ⟨w.heap.size, 1, none⟩ = some (.string r0) := hr1 0 (by simp)
        have HR1 := Lib.hid hr1
        have HB1 := Lib.hid hb1
        clear hr1 hb1
        go_wp2_with fail
        refine (HN.out w1 HR1.out HB1.out).mono ?_
        rintro e w2 ⟨⟨b, off, cap, rfl, hc⟩, hb2⟩
        have HR2 := Lib.hid (HR1.out.below hb2)
        have HB2 := Lib.hid (below_trans HB1.out hb2)
        clear hb2
        go_wp2_with fail
        refine (HM.out _ HR2.out).mono ?_
        rintro e w3 ⟨rfl, hb3⟩
        have HR3 := Lib.hid (HR2.out.below hb3)
        have d3 := keep_cell hb3 hc
        have HB3 := Lib.hid (below_trans HB2.out hb3)
        clear hb3
        go_wp2_with fail
        refine (between_any _ _ _ _).mono ?_
        rintro e w4 ⟨rfl, rfl⟩
        rw [← HP.out]
        go_wp2
        go_ret
        refine ⟨⟨_, rfl, ?_⟩, HB3.out⟩
        rw [HOX.out]
        refine ⟨_, rfl, ?_⟩
        have h9 := (HR3.out.drop 1).strs (by show rs.length ≤ _; rw [HK.out]; omega)
        have hd1 : ((r0 :: rs).drop 1).length = k + 1 := HK.out
        rw [hd1] at h9
        exact h9
/-- The deed or the question of a line. -/
theorem parse_any (s : ByteArray) (hs : s.size ≤ 1000000) (w : World) (hV : Vars w) : Calls Tryz.prog 54 #[.string s] w (GivesC w (parseB s)) := by
  cases h : splitA 32 s with
  | nil => exact absurd h (splitA_ne _ _)
  | cons w0 rest =>
    cases rest with
    | nil => exact parse_one s hs w hV h
    | cons r0 rs =>
      by_cases n1 : w0 = putW
      · subst n1
        by_cases hr : rs = []
        · subst hr; exact parse_put_one s hs w hV h
        · exact parse_put_many s hs w hV h hr
      · by_cases n2 : w0 = dropW
        · subst n2
          by_cases hr : rs = []
          · subst hr; exact parse_drop_one s hs w hV h
          · exact parse_drop_many s hs w hV h hr
        · by_cases n3 : w0 = stockW
          · subst n3
            by_cases hr : rs = []
            · subst hr; exact parse_stock_one s hs w hV h
            · exact parse_stock_many s hs w hV h hr
          · by_cases n4 : w0 = addW
            · subst n4
              by_cases hr : rs = []
              · subst hr; exact parse_add_one s hs w hV h
              · exact parse_add_many s hs w hV h hr
            · by_cases n5 : w0 = shareW
              · subst n5
                by_cases hr : rs = []
                · subst hr; exact parse_share_one s hs w hV h
                · exact parse_share_many s hs w hV h hr
              · exact parse_other s hs w hV h n1 n2 n3 n4 n5
end Go.Proofs.YtdfkaijeppdhaaaGreatDoor
