/- Texts of this claim, laid together: TdDm, TdTe, TdTf. -/
import Derived.Test.YtdfkaijeppdhaaaGreatDoorZHq18
import Derived.Test.YtdfkaijeppdhaaaGreatDoorZHq19
import Derived.Lib.ItoaNum
import Derived.Lib.AppendIntMem
import Derived.Laws.IdiomStrings

/- Contracts: the numeral of a number, and the text of a tide, of the program and of the reference. -/
namespace Go.Proofs.YtdfkaijeppdhaaaGreatDoor.Td
open Go.RowKit Go.Shelf
/-- The variables of the library that the program reads. -/
structure Vars (w : World) : Prop where
  tab : Lib.TabIs Tryz.prog w "internal/strconv.uint64pow10" .u64 Lib.pow10Tab
  es : ∃ ev, w.cell? ⟨2, 0, none⟩ = some ev ∧ (ev = .nilIface ∨ ∃ te pe, ev = .iface te pe)
  er : ∃ ev, w.cell? ⟨3, 0, none⟩ = some ev ∧ (ev = .nilIface ∨ ∃ te pe, ev = .iface te pe)
theorem tabIs_below {n : String} {g : Nat} {k : IntKind} {zs : List Int} {w w' : World} (hg : Tryz.prog.globalNamed n = some g) (h : Lib.TabIs Tryz.prog w n k zs) (hb : Below w.heap.size w w') : Lib.TabIs Tryz.prog w' n k zs := by
  unfold Lib.TabIs World.var? at h ⊢
  rw [hg] at h ⊢
  simp only [Option.bind_some] at h ⊢
  have hlt : g < w.heap.size := by
    rcases Nat.lt_or_ge g w.heap.size with h' | h'
    · exact h'
    · rw [Array.getElem?_eq_none h'] at h; cases h
  rw [hb.block g hlt]
  exact h
theorem Vars.below {w w' : World} (h : Vars w) (hb : Below w.heap.size w w') : Vars w' := by
  obtain ⟨e1, h1, k1⟩ := h.es
  obtain ⟨e2, h2, k2⟩ := h.er
  exact ⟨tabIs_below (g := 1) (by kernel_rfl) h.tab hb, ⟨e1, keep_cell hb h1, k1⟩, ⟨e2, keep_cell hb h2, k2⟩⟩

/-- The string of a list of bytes. -/
def strV (l : List UInt8) : Value := .string ⟨l.toArray⟩
def itoaB (n : Int) : ByteArray := ⟨(Lib.itoa n).toArray⟩

theorem grow_below (w : World) (k : Nat) (os : Array Obj) : Below w.heap.size w (Go.Sort.grow (w.drewN k) os) := Lib.below_grow _ w (Nat.le_refl _) k os

theorem itoa_any (n : Int) (h0 : -1000000 ≤ n) (h1 : n ≤ 1000000) (w : World) (hv : Vars w) :
    Calls Tryz.prog 48 #[.int .i64 n] w fun e w' => e = .returned (.string (itoaB n)) ∧ Below w.heap.size w w' :=
  (Tryz.strconv_Itoa n (by omega) (by omega) w hv.tab).mono fun _ _ ⟨h, k, os, hw⟩ => ⟨h, hw ▸ grow_below w k os⟩

theorem ba_ext2 {s t : ByteArray} (h : s.data.toList = t.data.toList) : s = t := by
  cases s; cases t
  simp only [ByteArray.mk.injEq]
  exact Array.toList_inj.1 h
theorem nDigits_le : ∀ (k u : Nat), u < 10 ^ (k + 1) → Lib.nDigits u ≤ k + 1
  | 0, u, h => by rw [Lib.nDigits_small (by simpa using h)]; exact Nat.le_refl _
  | k + 1, u, h => by
    by_cases h1 : u < 10
    · rw [Lib.nDigits_small h1]; omega
    · rw [Lib.nDigits_big h1]
      have := nDigits_le k (u / 10) (by rw [Nat.pow_succ] at h; omega)
      omega
theorem itoa_len {n : Int} (h0 : -1000000000 ≤ n) (h1 : n ≤ 1000000000) : (Lib.itoa n).length ≤ 11 := by
  have hp : (10 : Nat) ^ 10 = 10000000000 := by decide
  unfold Lib.itoa
  split
  · rw [List.length_cons, Lib.decDigits_length]
    have := nDigits_le 9 n.natAbs (by omega)
    omega
  · rw [Lib.decDigits_length]
    have := nDigits_le 9 n.toNat (by omega)
    omega
def texW (l : List Int) : List UInt8 := Lib.join (l.map Lib.itoa) [44]
def texL (t : List (List Int)) : List UInt8 := Lib.join (t.map texW) [59]
theorem join_len (sep : List UInt8) (B : Nat) (xs : List (List UInt8)) (h : ∀ x ∈ xs, x.length ≤ B) : (Lib.join xs sep).length ≤ xs.length * (B + sep.length) := by
  cases xs with
  | nil => simp [Lib.join_nil]
  | cons y ys =>
    rw [Lib.join_cons, List.length_append]
    have h1 := h y (by simp)
    have h2 : (Lib.joinTail sep ys).length ≤ ys.length * (B + sep.length) := by
      have hy : ∀ x ∈ ys, x.length ≤ B := fun x hx => h x (by simp [hx])
      clear h h1
      induction ys with
      | nil => simp [Lib.joinTail]
      | cons z zs ih =>
        have h3 := ih (fun x hx => hy x (by simp [hx]))
        have h4 := hy z (by simp)
        simp only [Lib.joinTail, List.map_cons, List.flatten_cons, List.length_append, List.length_cons] at h3 ⊢
        rw [Nat.add_mul]
        omega
    rw [List.length_cons, Nat.add_mul]
    omega
theorem texW_len {l : List Int} (h : wvld l = true) : (texW l).length ≤ 144 := by
  obtain ⟨h1, h2, h3⟩ := (wvld_iff l).1 h
  have := join_len [44] 11 (l.map Lib.itoa) (fun x hx => by
    obtain ⟨n, hn, rfl⟩ := List.mem_map.1 hx
    have := h3 n hn
    exact itoa_len (by omega) (by omega))
  simp only [List.length_map, List.length_cons, List.length_nil] at this
  unfold texW
  omega
theorem texL_len {t : List (List Int)} (h : Vld t) : (texL t).length ≤ 580 := by
  have hh := h.hi
  have := join_len [59] 144 (t.map texW) (fun x hx => by
    obtain ⟨l, hl, rfl⟩ := List.mem_map.1 hx
    exact texW_len ((wvld_iff l).2 (h.wave l hl)))
  simp only [List.length_map, List.length_cons, List.length_nil] at this
  unfold texL
  omega
theorem Tryz.infoStr : (Tryz.prog.info? 9).map (fun i => (i.zero, i.size, i.bytes)) = some (some (.string ⟨#[]⟩), 1, 16) := by kernel_rfl

theorem own_below {w w' : World} {base : Nat} {e : TypeId} {size : Nat} {v : Value} {n : Nat} {xs : List Value} (h : w.ownsRow base e size v n xs) (hb : Below w.heap.size w w') : w'.ownsRow base e size v n xs := by
  refine ⟨h.1, ?_⟩
  rcases h.2 with hn | ⟨g, cap, cur, hv, hbg, hg, hrest⟩
  · exact .inl hn
  · have hlt : g < w.heap.size := by
      rcases Nat.lt_or_ge g w.heap.size with h | h
      · exact h
      · rw [Array.getElem?_eq_none h] at hg; cases hg
    exact .inr ⟨g, cap, cur, hv, hbg, (hb.block g hlt).trans hg, hrest⟩

/-- strings.Join of a row of our own. -/
theorem join_own (base : Nat) (e : TypeId) (v : Value) (xs : List ByteArray) (sep : ByteArray) (w : World) (h : w.ownsRow base e 1 v xs.length (xs.map Value.string)) (hx : xs ≠ [])
    (hN : xs.length ≤ 1000) (hlen : (Lib.join (xs.map (·.data.toList)) sep.data.toList).length ≤ 140737488355328) :
    Calls Tryz.prog 85 #[v, .string sep] w fun e w' => e = .returned (strV (Lib.join (xs.map (·.data.toList)) sep.data.toList)) ∧ Below w.heap.size w w' := by
  rcases h.2 with ⟨_, h0⟩ | ⟨g, cap, cur, rfl, _, hg, hcap, _⟩
  · exact absurd (List.length_eq_zero_iff.1 h0) hx
  · refine Tryz.strings_Join g 0 cap xs sep w (fun j x hj => ?_) (Array.getElem?_eq_some_iff.1 hg).1 (by omega) hcap hlen
    have hj2 : j < xs.length := (List.getElem?_eq_some_iff.1 hj).1
    rw [Nat.zero_add, h.cellAt j (by omega), List.getElem?_map, hj]
    rfl
end Go.Proofs.YtdfkaijeppdhaaaGreatDoor.Td

/- Contracts: the text of a tide, of the program and of the reference; Format of both. -/
namespace Go.Proofs.YtdfkaijeppdhaaaGreatDoor.Td
open Go.RowKit Go.Shelf
theorem getD_take_snoc {α β : Type} (f : α → β) (l : List α) (k : Nat) (d : α) (h : k < l.length) : (l.map f).take (k + 1) = (l.map f).take k ++ [f (l.getD k d)] := by
  rw [← List.map_take, ← List.map_take, List.take_succ_eq_append_getElem h, List.map_append, List.getD_eq_getElem?_getD, List.getElem?_eq_getElem h]
  rfl

set_option maxRecDepth 100000 in
set_option maxHeartbeats 4000000 in
theorem text_any (v : Value) (t : List (List Int)) (w : World) (hv : RowsAt w v t) (ht : Vld t) (hV : Vars w) :
    Calls Tryz.prog 195 #[v] w fun e w' => e = .returned (strV (texL t)) ∧ Below w.heap.size w w' := by
  have hlo := ht.lo
  have hhi := ht.hi
  have HT := Lib.hid ht
  have HV := Lib.hid hv
  have HVR := Lib.hid hV
  obtain ⟨i0, hi0, hz0, hz1, hz2⟩ := info_parts Tryz.infoStr
  obtain ⟨a, cap, rfl, hl, hq⟩ := id hv
  obtain ⟨b, off, rfl, hc⟩ := hq (by omega)
  clear hq hv ht hV
  go_enter Tryz.func195, Tryz.ntmps195
  go_wp2
  go_loopw [3, 11] (fun o i wr => ∃ k : Nat, k ≤ t.length ∧ i = .int .i64 k ∧ wr.ownsRow w.heap.size 9 1 o k ((t.map (fun l => strV (texW l))).take k) ∧ Below w.heap.size w wr)
    (fun _ i _ => t.length - (intOf i).toNat)
  case atStart => exact ⟨0, Nat.zero_le _, rfl, World.ownsRow_nil _ _ _ _, Below.refl _ _⟩
  case round =>
    obtain ⟨k, hk, rfl, hown, hbel⟩ := hrel
    obtain ⟨wo, rfl⟩ : ∃ wo : World, wo = wr := ⟨_, rfl⟩
    have hsz := hbel.size
    have HO := Lib.hid hown
    have HB := Lib.hid hbel
    by_cases hlt : k < t.length
    · obtain ⟨x, hx0, hi⟩ := hc k hlt
      have hmem := getD_mem hlt
      have SN := Lib.hid (getD_take_snoc (fun l => strV (texW l)) t k [] hlt)
      have hwv := (wvld_iff _).2 (HT.out.wave _ hmem)
      have hw3 := HT.out.wave _ hmem
      have hTL := Lib.hid (texW_len hwv)
      generalize t.getD k [] = lk at *
      have hl1 := hw3.1
      have hl2 := hw3.2.1
      have HW := Lib.hid hw3.2.2
      have hx := keep_cell hbel hx0
      have hiw := hi.below hbel
      obtain ⟨lb, lo, lc, rfl, hlc⟩ := ints_cell hiw (by omega)
      have HLC := Lib.hid hlc
      clear hx0 hi hiw hlc hw3 hwv hmem hown hbel
      go_wp2
      go_loopw [6, 17] (fun o i wr => ∃ j : Nat, j ≤ lk.length ∧ i = .int .i64 j ∧ wr.ownsRow wo.heap.size 9 1 o j ((lk.map (fun n => Value.string (itoaB n))).take j) ∧ Below wo.heap.size wo wr)
        (fun _ i _ => lk.length - (intOf i).toNat)
      case atStart => exact ⟨0, Nat.zero_le _, rfl, World.ownsRow_nil _ _ _ _, Below.refl _ _⟩
      case round =>
        obtain ⟨j, hj, rfl, hown, hbel⟩ := hrel
        have hsz2 := hbel.size
        by_cases hjl : j < lk.length
        · have hn := HW.out _ (getD_mem' hjl)
          have SJ := Lib.hid (getD_take_snoc (fun n => Value.string (itoaB n)) lk j 0 hjl)
          have hcx := keep_cell hbel (HLC.out j hjl)
          generalize lk.getD j 0 = n at *
          have IT := Lib.hid (itoa_any n (by omega) (by omega) wr (HVR.out.below (HB.out.trans (hbel.mono hsz))))
          have HO2 := Lib.hid hown
          have HB2 := Lib.hid hbel
          clear hown hbel
          go_wp2_with fail
          refine IT.out.mono ?_
          rintro e w1 ⟨rfl, hb1⟩
          have hown1 := own_below HO2.out hb1
          have hbel1 := HB2.out.trans (hb1.mono hsz2)
          have hsz1 := hbel1.size
          have HO3 := Lib.hid hown1
          have HB3 := Lib.hid hbel1
          clear hb1 hown1 hbel1
          go_wp2_with (at_builtin; refine wpList_append_own _ rfl _ _ 22 rfl wo.heap.size 9 i0 (.string ⟨#[]⟩) 1 16 Tryz.underlying22 hi0 hz0 hz1 hz2 rfl (by decide) _ _ _ rfl (HO3.out.alloc _) ⟨w1.heap.size, 0, none⟩ 1 1 [.string (itoaB n)] rfl rfl ?c1 ?c2 ?c3 ?c4 ?c5 ?_)
          case c1 => exact (cell_one_new _ _ _)
          case c2 => intro u hu; simp at hu; subst hu; rfl
          case c3 => unfold maxLen; omega
          case c4 => omega
          case c5 => simp; omega
          · intro v' w2 hown' hgrow _
            have R := below_append HB3.out hsz1 HO3.out hgrow
            clear hgrow
            go_wp2
            go_roundw
            case rel => exact ⟨j + 1, by omega, by go_num, by rw [SJ.out]; exact hown', R⟩
            case measure => simp [intOf]; omega
        · have e : j = lk.length := by omega
          subst e
          have HO4 : Hid (World.ownsRow wr wo.heap.size 9 1 _ (lk.map itoaB).length ((lk.map itoaB).map Value.string)) := Lib.hid (by
            have h := hown
            rw [List.take_of_length_le (by simp)] at h
            rw [List.length_map, List.map_map]
            exact h)
          have hJ := join_own _ _ _ (lk.map itoaB) ⟨#[44]⟩ wr HO4.out (by intro e; rw [List.map_eq_nil_iff] at e; rw [e] at hl1; simp at hl1) (by rw [List.length_map]; omega) (by
            have h := hTL.out
            unfold texW at h
            rw [List.map_map]
            exact Nat.le_trans h (by omega))
          have EJ : Lib.join ((lk.map itoaB).map (·.data.toList)) [44] = texW lk := by
            rw [List.map_map]; rfl
          have hO1 := own_below HO.out hbel
          have hB1 := HB.out.trans (hbel.mono hsz)
          have HJ := Lib.hid hJ
          have HEJ := Lib.hid EJ
          have HO5 := Lib.hid hO1
          have HB5 := Lib.hid hB1
          clear hown hbel hJ EJ hO1 hB1 HO4 HO
          go_wp2_with fail
          refine HJ.out.mono ?_
          rintro e w1 ⟨rfl, hb1⟩
          rw [HEJ.out]
          have HO6 := Lib.hid (own_below HO5.out hb1)
          have HB6 := Lib.hid (HB5.out.trans (hb1.mono HB5.out.size))
          have hsz1 := HB6.out.size
          clear hb1
          unfold strV
          generalize hs : ByteArray.mk (texW lk).toArray = sv
          have HS := Lib.hid hs
          clear hs
          go_wp2_with (at_builtin; refine wpList_append_own _ rfl _ _ 22 rfl w.heap.size 9 i0 (.string ⟨#[]⟩) 1 16 Tryz.underlying22 hi0 hz0 hz1 hz2 rfl (by decide) _ _ _ rfl (HO6.out.alloc _) ⟨w1.heap.size, 0, none⟩ 1 1 [.string sv] rfl rfl ?d1 ?d2 ?d3 ?d4 ?d5 ?_)
          case d1 => exact (cell_one_new _ _ _)
          case d2 => intro u hu; simp at hu; subst hu; rfl
          case d3 => unfold maxLen; omega
          case d4 => omega
          case d5 => simp; omega
          · intro v' w2 hown' hgrow _
            have R := below_append HB6.out hsz1 HO6.out hgrow
            clear hgrow
            go_wp2
            go_roundw
            case rel => exact ⟨k + 1, by omega, by go_num, by rw [SN.out]; unfold strV; rw [HS.out]; exact hown', R⟩
            case measure => simp [intOf]; omega
    · have e : k = t.length := by omega
      subst e
      have HO4 : Hid (World.ownsRow wo w.heap.size 9 1 _ (t.map fun l => (ByteArray.mk (texW l).toArray)).length ((t.map fun l => (ByteArray.mk (texW l).toArray)).map Value.string)) := Lib.hid (by
        have h := hown
        rw [List.take_of_length_le (by simp)] at h
        rw [List.length_map, List.map_map]
        exact h)
      have EJ : (t.map fun l => (ByteArray.mk (texW l).toArray)).map (·.data.toList) = t.map texW := by
        rw [List.map_map]
        simp
      have HJ := Lib.hid (join_own _ _ _ (t.map fun l => (ByteArray.mk (texW l).toArray)) ⟨#[59]⟩ wo HO4.out (by intro e; rw [List.map_eq_nil_iff] at e; rw [e] at hlo; simp at hlo) (by rw [List.length_map]; omega) (by
        rw [EJ]
        exact Nat.le_trans (texL_len HT.out) (by omega)))
      have HEJ := Lib.hid EJ
      clear hown hbel EJ HO4 HO
      go_wp2_with fail
      refine HJ.out.mono ?_
      rintro e w1 ⟨rfl, hb1⟩
      rw [HEJ.out]
      go_wp2
      go_ret
      exact ⟨rfl, HB.out.trans (hb1.mono hsz)⟩
end Go.Proofs.YtdfkaijeppdhaaaGreatDoor.Td

/- Contract: the reference's text of a tide; Format of both. -/
namespace Go.Proofs.YtdfkaijeppdhaaaGreatDoor.Td
open Go.RowKit Go.Shelf
/-- A string of bytes. -/
def bsB (l : List UInt8) : ByteArray := ⟨l.toArray⟩
end Go.Proofs.YtdfkaijeppdhaaaGreatDoor.Td
