/- Contracts: the numeral of a number, and the text of a tide, of the program and of the reference. -/
import Derived.Test.YtbgflacfemeblaaDoorM
import Derived.Test.YtbgflacfemeblaaDoorShelf
import Derived.Lib.ItoaNum
import Derived.Lib.AppendIntMem
import Derived.Laws.IdiomStrings
namespace Go.Proofs.YtbgflacfemeblaaDoor
open Go.RowKit Go.Shelf

/-- The variables of the library that the program reads. -/
structure Vars (w : World) : Prop where
  tab : Lib.TabIs Tryd.prog w "internal/strconv.uint64pow10" .u64 Lib.pow10Tab
  es : ∃ ev, w.cell? ⟨0, 0, none⟩ = some ev ∧ (ev = .nilIface ∨ ∃ te pe, ev = .iface te pe)
  er : ∃ ev, w.cell? ⟨1, 0, none⟩ = some ev ∧ (ev = .nilIface ∨ ∃ te pe, ev = .iface te pe)
theorem tabIs_below {n : String} {g : Nat} {k : IntKind} {zs : List Int} {w w' : World} (hg : Tryd.prog.globalNamed n = some g) (h : Lib.TabIs Tryd.prog w n k zs) (hb : Below w.heap.size w w') : Lib.TabIs Tryd.prog w' n k zs := by
  unfold Lib.TabIs World.var? at h ⊢
  rw [hg] at h ⊢
  simp only [Option.bind_some] at h ⊢
  have hlt : g < w.heap.size := by
    rcases Nat.lt_or_ge g w.heap.size with h' | h'
    · exact h'
    · rw [Array.getElem?_eq_none h'] at h; cases h
  rw [hb.block g hlt]
  exact h
theorem Vars.below {w w' : World} (h : Vars w) (hb : Below w.heap.size w w') : Vars w' := by
  obtain ⟨e1, h1, k1⟩ := h.es
  obtain ⟨e2, h2, k2⟩ := h.er
  exact ⟨tabIs_below (g := 5) (by kernel_rfl) h.tab hb, ⟨e1, keep_cell hb h1, k1⟩, ⟨e2, keep_cell hb h2, k2⟩⟩

/-- The string of a list of bytes. -/
def strV (l : List UInt8) : Value := .string ⟨l.toArray⟩
def itoaB (n : Int) : ByteArray := ⟨(Lib.itoa n).toArray⟩

theorem grow_below (w : World) (k : Nat) (os : Array Obj) : Below w.heap.size w (Go.Sort.grow (w.drewN k) os) := Lib.below_grow _ w (Nat.le_refl _) k os

theorem itoa_any (n : Int) (h0 : -1000000 ≤ n) (h1 : n ≤ 1000000) (w : World) (hv : Vars w) :
    Calls Tryd.prog 25 #[.int .i64 n] w fun e w' => e = .returned (.string (itoaB n)) ∧ Below w.heap.size w w' :=
  (Tryd.strconv_Itoa n (by omega) (by omega) w hv.tab).mono fun _ _ ⟨h, k, os, hw⟩ => ⟨h, hw ▸ grow_below w k os⟩

theorem ret_s {a b : ByteArray} (h : a = b) : Ending.returned (.string a) = .returned (.string b) := by rw [h]
theorem ba_ext2 {s t : ByteArray} (h : s.data.toList = t.data.toList) : s = t := by
  cases s; cases t
  simp only [ByteArray.mk.injEq]
  exact Array.toList_inj.1 h
theorem nDigits_le : ∀ (k u : Nat), u < 10 ^ (k + 1) → Lib.nDigits u ≤ k + 1
  | 0, u, h => by rw [Lib.nDigits_small (by simpa using h)]; exact Nat.le_refl _
  | k + 1, u, h => by
    by_cases h1 : u < 10
    · rw [Lib.nDigits_small h1]; omega
    · rw [Lib.nDigits_big h1]
      have := nDigits_le k (u / 10) (by rw [Nat.pow_succ] at h; omega)
      omega
theorem itoa_len {n : Int} (h0 : -1000000000 ≤ n) (h1 : n ≤ 1000000000) : (Lib.itoa n).length ≤ 11 := by
  have hp : (10 : Nat) ^ 10 = 10000000000 := by decide
  unfold Lib.itoa
  split
  · rw [List.length_cons, Lib.decDigits_length]
    have := nDigits_le 9 n.natAbs (by omega)
    omega
  · rw [Lib.decDigits_length]
    have := nDigits_le 9 n.toNat (by omega)
    omega
theorem itoaB_size {n : Int} (h0 : -1000000000 ≤ n) (h1 : n ≤ 1000000000) : (itoaB n).size ≤ 11 := by
  have := itoa_len h0 h1
  simpa [itoaB, ByteArray.size] using this
theorem itoa_neg {n : Int} (h : n < 0) : Lib.itoa n = 45 :: Lib.itoa (-n) := by
  unfold Lib.itoa
  rw [if_pos h, if_neg (by omega)]
  congr 2
  omega
theorem itoa_small {n : Int} (h : 0 ≤ n) (h2 : n < 10) : Lib.itoa n = [UInt8.ofNat (48 + n.toNat)] := by
  unfold Lib.itoa
  rw [if_neg (by omega), Lib.decDigits_one (by omega)]
theorem itoa_big {n : Int} (h : 10 ≤ n) : Lib.itoa n = Lib.itoa (n / 10) ++ Lib.itoa (n % 10) := by
  have h1 : ¬ n.toNat < 10 := by omega
  have h2 : (n / 10).toNat = n.toNat / 10 := by omega
  have h3 : (n % 10).toNat = n.toNat % 10 := by omega
  unfold Lib.itoa
  rw [if_neg (by omega), if_neg (by omega), if_neg (by omega), h2, h3]
  conv => lhs; rw [Lib.decDigits, dif_neg h1]
  rw [Lib.decDigits_one (i := n.toNat % 10) (by omega)]

set_option maxRecDepth 100000 in
set_option maxHeartbeats 1000000 in
/-- The reference's numeral. -/
theorem decimal_nat (u : Nat) : ∀ (n : Int) (w : World), 0 ≤ n → n.toNat ≤ u → n ≤ 1000000000 →
    Calls Tryd.prog 27 #[.int .i64 n] w fun e w' => e = .returned (.string (itoaB n)) ∧ Below w.heap.size w w' := by
  induction u using Nat.strongRecOn with
  | _ u ih =>
    intro n w h0 hu h1
    have h0' : ¬ n < 0 := by omega
    by_cases h : n < 10
    · have E := Lib.hid (itoa_small h0 h)
      have hb8 : (UInt8.ofNat (48 + n.toNat)).toNat = 48 + n.toNat := by rw [UInt8.toNat_ofNat']; omega
      have hcv := run_convert_bytes_back (P := Tryd.prog) (w.alloc (.cells #[.int .u8 (48 + n)] 5)) 65 9 5 ⟨w.heap.size, 0, none⟩ 1 [UInt8.ofNat (48 + n.toNat)] Tryd.underlying65 Tryd.underlying5 Tryd.underlying9 (by
        intro j hj
        have : j = 0 := by simpa using hj
        subst this
        simp only [List.getElem_cons_zero, hb8]
        have e : (((48 + n.toNat : Nat)) : Int) = 48 + n := by omega
        rw [e]
        show World.cell? _ ⟨w.heap.size, 0 + 0, none⟩ = _
        simp)
      clear hb8
      rw [show [UInt8.ofNat (48 + n.toNat)].length = 1 from rfl] at hcv
      generalize UInt8.ofNat (48 + n.toNat) = bb at *
      go_enter Tryd.func27, Tryd.ntmps27
      go_wp2
      go_ret
      exact ⟨ret_s (by unfold itoaB; rw [E.out]), (Below.refl _ _).alloc (Nat.le_refl _) _⟩
    · have E := Lib.hid (itoa_big (n := n) (by omega))
      have z1 := itoaB_size (n := n / 10) (by omega) (by omega)
      have z2 := itoaB_size (n := n % 10) (by omega) (by omega)
      have z3 : (itoaB (n / 10)).size + (itoaB (n % 10)).size ≤ 9223372036854775807 := by omega
      clear z1 z2
      have I1 := Lib.hid (fun W => ih (n / 10).toNat (by omega) (n / 10) W (by omega) (by omega) (by omega))
      have I2 := Lib.hid (fun W => ih (n % 10).toNat (by omega) (n % 10) W (by omega) (by omega) (by omega))
      clear ih hu
      go_enter Tryd.func27, Tryd.ntmps27
      go_wp2_with fail
      refine (I1.out _).mono ?_
      rintro e w1 ⟨rfl, hb1⟩
      go_wp2_with fail
      refine (I2.out _).mono ?_
      rintro e w2 ⟨rfl, hb2⟩
      go_wp2
      go_ret
      exact ⟨ret_s (by unfold itoaB; rw [E.out]; apply ba_ext2; simp), below_trans hb1 hb2⟩

set_option maxRecDepth 100000 in
set_option maxHeartbeats 1000000 in
theorem decimal_any (n : Int) (w : World) (h0 : -1000000000 ≤ n) (h1 : n ≤ 1000000000) :
    Calls Tryd.prog 27 #[.int .i64 n] w fun e w' => e = .returned (.string (itoaB n)) ∧ Below w.heap.size w w' := by
  by_cases h : n < 0
  · have E := Lib.hid (itoa_neg h)
    have D := Lib.hid (fun W => decimal_nat (-n).toNat (-n) W (by omega) (Nat.le_refl _) (by omega))
    have z2 := itoaB_size (n := -n) (by omega) (by omega)
    have z3 : (ByteArray.mk #[45]).size + (itoaB (-n)).size ≤ 9223372036854775807 := by have : (ByteArray.mk #[45]).size = 1 := rfl; omega
    have z4 : 1 + (itoaB (-n)).size ≤ 9223372036854775807 := by omega
    clear z2
    go_enter Tryd.func27, Tryd.ntmps27
    go_wp2_with fail
    refine (D.out _).mono ?_
    rintro e w1 ⟨rfl, hb1⟩
    go_wp2
    go_ret
    exact ⟨ret_s (by unfold itoaB; rw [E.out]; apply ba_ext2; simp), hb1⟩
  · exact decimal_nat n.toNat n w (by omega) (Nat.le_refl _) h1

/-! ### The text of a tide -/
def texW (l : List Int) : List UInt8 := Lib.join (l.map Lib.itoa) [44]
def texL (t : List (List Int)) : List UInt8 := Lib.join (t.map texW) [59]
theorem join_snoc (sep x : List UInt8) : ∀ (xs : List (List UInt8)), Lib.join (xs ++ [x]) sep = if xs = [] then x else Lib.join xs sep ++ (sep ++ x)
  | [] => by simp [Lib.join_one]
  | y :: ys => by
    rw [List.cons_append, Lib.join_cons, Lib.join_cons, if_neg (by simp)]
    simp [Lib.joinTail]
theorem join_len (sep : List UInt8) (B : Nat) (xs : List (List UInt8)) (h : ∀ x ∈ xs, x.length ≤ B) : (Lib.join xs sep).length ≤ xs.length * (B + sep.length) := by
  cases xs with
  | nil => simp [Lib.join_nil]
  | cons y ys =>
    rw [Lib.join_cons, List.length_append]
    have h1 := h y (by simp)
    have h2 : (Lib.joinTail sep ys).length ≤ ys.length * (B + sep.length) := by
      have hy : ∀ x ∈ ys, x.length ≤ B := fun x hx => h x (by simp [hx])
      clear h h1
      induction ys with
      | nil => simp [Lib.joinTail]
      | cons z zs ih =>
        have h3 := ih (fun x hx => hy x (by simp [hx]))
        have h4 := hy z (by simp)
        simp only [Lib.joinTail, List.map_cons, List.flatten_cons, List.length_append, List.length_cons] at h3 ⊢
        rw [Nat.add_mul]
        omega
    rw [List.length_cons, Nat.add_mul]
    omega
theorem texW_len {l : List Int} (h : wvld l = true) : (texW l).length ≤ 144 := by
  obtain ⟨h1, h2, h3⟩ := (wvld_iff l).1 h
  have := join_len [44] 11 (l.map Lib.itoa) (fun x hx => by
    obtain ⟨n, hn, rfl⟩ := List.mem_map.1 hx
    have := h3 n hn
    exact itoa_len (by omega) (by omega))
  simp only [List.length_map, List.length_cons, List.length_nil] at this
  unfold texW
  omega
theorem texL_len {t : List (List Int)} (h : Vld t) : (texL t).length ≤ 580 := by
  have hh := h.hi
  have := join_len [59] 144 (t.map texW) (fun x hx => by
    obtain ⟨l, hl, rfl⟩ := List.mem_map.1 hx
    exact texW_len ((wvld_iff l).2 (h.wave l hl)))
  simp only [List.length_map, List.length_cons, List.length_nil] at this
  unfold texL
  omega
theorem Tryd.infoStr : (Tryd.prog.info? 9).map (fun i => (i.zero, i.size, i.bytes)) = some (some (.string ⟨#[]⟩), 1, 16) := by kernel_rfl

theorem own_below {w w' : World} {base : Nat} {e : TypeId} {size : Nat} {v : Value} {n : Nat} {xs : List Value} (h : w.ownsRow base e size v n xs) (hb : Below w.heap.size w w') : w'.ownsRow base e size v n xs := by
  refine ⟨h.1, ?_⟩
  rcases h.2 with hn | ⟨g, cap, cur, hv, hbg, hg, hrest⟩
  · exact .inl hn
  · have hlt : g < w.heap.size := by
      rcases Nat.lt_or_ge g w.heap.size with h | h
      · exact h
      · rw [Array.getElem?_eq_none h] at hg; cases hg
    exact .inr ⟨g, cap, cur, hv, hbg, (hb.block g hlt).trans hg, hrest⟩

/-- strings.Join of a row of our own. -/
theorem join_own (base : Nat) (e : TypeId) (v : Value) (xs : List ByteArray) (sep : ByteArray) (w : World) (h : w.ownsRow base e 1 v xs.length (xs.map Value.string)) (hx : xs ≠ [])
    (hN : xs.length ≤ 1000) (hlen : (Lib.join (xs.map (·.data.toList)) sep.data.toList).length ≤ 140737488355328) :
    Calls Tryd.prog 26 #[v, .string sep] w fun e w' => e = .returned (strV (Lib.join (xs.map (·.data.toList)) sep.data.toList)) ∧ Below w.heap.size w w' := by
  rcases h.2 with ⟨_, h0⟩ | ⟨g, cap, cur, rfl, _, hg, hcap, _⟩
  · exact absurd (List.length_eq_zero_iff.1 h0) hx
  · refine Tryd.strings_Join g 0 cap xs sep w (fun j x hj => ?_) (Array.getElem?_eq_some_iff.1 hg).1 (by omega) hcap hlen
    have hj2 : j < xs.length := (List.getElem?_eq_some_iff.1 hj).1
    rw [Nat.zero_add, h.cellAt j (by omega), List.getElem?_map, hj]
    rfl
end Go.Proofs.YtbgflacfemeblaaDoor
