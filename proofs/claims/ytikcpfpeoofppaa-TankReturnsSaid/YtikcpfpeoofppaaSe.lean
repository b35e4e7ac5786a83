/- Contracts: Deeds, Least, Can, Between, Back (the program). -/
import Derived.Test.YtikcpfpeoofppaaNs
import Derived.Test.YtikcpfpeoofppaaSd
namespace Go.Proofs.Ytikcpfpeoofppaa
open Go.RowKit Go.Shelf

/-- Empty tanks. -/
def zerosL (t : List Int) : List Int := List.replicate t.length 0
theorem zeros_getD (t : List Int) (j : Nat) : (zerosL t).getD j 0 = 0 := by
  unfold zerosL
  rw [List.getD_eq_getElem?_getD, List.getElem?_replicate]
  split <;> rfl
theorem zeros_lev {t : List Int} (ht : Tvl t) : Lev t (zerosL t) := ⟨by simp [zerosL], fun j hj => by
  have := ht.holds _ (mem_getD hj)
  rw [zeros_getD]
  omega⟩
theorem zeros_pad (t : List Int) : pad (zerosL t) = .agg #[.int .i64 0, .int .i64 0, .int .i64 0, .int .i64 0] := by
  unfold pad levV
  simp only [zeros_getD]

def amtE (t : List Int) (i n : Int) : Int := if tvl t then (if betw 0 i ((t.length : Int) - 1) && betw 0 n 12 then 0 else 2) else 40
def amtG (i n : Int) (l : List Int) : Bool := l.getD i.toNat 0 == n
theorem amtE_zero {t : List Int} {i n : Int} (h : amtE t i n = 0) : Tvl t ∧ 0 ≤ i ∧ i < t.length ∧ 0 ≤ n ∧ n ≤ 12 := by
  unfold amtE at h
  cases ht : tvl t with
  | false => rw [ht] at h; cases h
  | true =>
    rw [ht] at h
    simp only [if_true] at h
    cases hb : (betw 0 i ((t.length : Int) - 1) && betw 0 n 12) with
    | false => rw [hb] at h; cases h
    | true =>
      rw [Bool.and_eq_true, betw_iff, betw_iff] at hb
      exact ⟨(tvl_iff t).1 ht, by omega, by omega, by omega, by omega⟩

set_option maxRecDepth 100000 in
set_option maxHeartbeats 2000000 in
theorem amount_any (v : Value) (t : List Int) (i n : Int) (w : World) (hv : IntsAt w v t) :
    Calls Try.prog 59 #[v, .int .i64 i, .int .i64 n] w fun e w' => ∃ fv, e = .returned (.tuple #[fv, .int .i64 (amtE t i n)]) ∧ Below w.heap.size w w' ∧
      (amtE t i n = 0 → ∃ B0 B1, fv = .func (.func 85) #[] #[.pointer (some ⟨B0, 0, none⟩), .pointer (some ⟨B1, 0, none⟩)] ∧ w'.cell? ⟨B0, 0, none⟩ = some (.int .i64 i) ∧ w'.cell? ⟨B1, 0, none⟩ = some (.int .i64 n)) := by
  have hB : Below w.heap.size w ((w.alloc (.cells #[.int .i64 i] 3)).alloc (.cells #[.int .i64 n] 3)) := ((Below.refl _ w).alloc (Nat.le_refl _) _).alloc (by simp) _
  have V := Lib.hid (valid_any v t _ (hv.below hB))
  have HBW := Lib.hid hB
  obtain ⟨a, cap, rfl, hl, _⟩ := hv
  have hw : IntKind.i64.wrap ((t.length : Int) - 1) = (t.length : Int) - 1 := IntWalk.i64_in _ (by omega)
  cases h1 : tvl t with
  | false =>
    rw [h1] at V
    have A := Lib.hid (show amtE t i n = 40 by unfold amtE; rw [h1]; rfl)
    clear hB h1
    go_enter Try.func59, Try.ntmps59
    go_wp2_with (go_at_call 38; refine V.out.mono ?_; rintro e w' ⟨rfl, rfl⟩)
    refine bodyPost_ret (v := .tuple #[.nilFunc, .int .i64 40]) (by simp [results, Try.results59, go_sem]) rfl ⟨_, by rw [A.out], HBW.out, fun h => by rw [A.out] at h; cases h⟩
  | true =>
    rw [h1] at V
    clear hB
    cases h2 : betw 0 i ((t.length : Int) - 1) with
    | false =>
      have B1 := Lib.hid h2
      have A := Lib.hid (show amtE t i n = 2 by unfold amtE; rw [h1, h2]; rfl)
      clear h1 h2
      go_enter Try.func59, Try.ntmps59
      go_wp2_with (first | (go_at_call 38; refine V.out.mono ?_; rintro e w' ⟨rfl, rfl⟩) | (go_at_call 53; refine (between_any _ _ _ _).mono ?_; rintro e w' ⟨rfl, rfl⟩; rw [B1.out]))
      refine bodyPost_ret (v := .tuple #[.nilFunc, .int .i64 2]) (by simp [results, Try.results59, go_sem]) rfl ⟨_, by rw [A.out], HBW.out, fun h => by rw [A.out] at h; cases h⟩
    | true =>
      have B1 := Lib.hid h2
      cases h3 : betw 0 n 12 with
      | false =>
        have B2 := Lib.hid h3
        have A := Lib.hid (show amtE t i n = 2 by unfold amtE; rw [h1, h2, h3]; rfl)
        clear h1 h2 h3
        go_enter Try.func59, Try.ntmps59
        go_wp2_with (first | (go_at_call 38; refine V.out.mono ?_; rintro e w' ⟨rfl, rfl⟩) | (go_at_call 53; refine (between_any _ _ _ _).mono ?_; rintro e w' ⟨rfl, rfl⟩; first | rw [B1.out] | rw [B2.out]))
        refine bodyPost_ret (v := .tuple #[.nilFunc, .int .i64 2]) (by simp [results, Try.results59, go_sem]) rfl ⟨_, by rw [A.out], HBW.out, fun h => by rw [A.out] at h; cases h⟩
      | true =>
        have B2 := Lib.hid h3
        have A := Lib.hid (show amtE t i n = 0 by unfold amtE; rw [h1, h2, h3]; rfl)
        clear h1 h2 h3
        go_enter Try.func59, Try.ntmps59
        go_wp2_with (first | (go_at_call 38; refine V.out.mono ?_; rintro e w' ⟨rfl, rfl⟩) | (go_at_call 53; refine (between_any _ _ _ _).mono ?_; rintro e w' ⟨rfl, rfl⟩; first | rw [B1.out] | rw [B2.out]))
        refine bodyPost_ret (v := .tuple #[.func (.func 85) #[] #[.pointer (some ⟨w.heap.size, 0, none⟩), .pointer (some ⟨w.heap.size + 1, 0, none⟩)], .int .i64 0]) (by simp [results, Try.results59, go_sem]) rfl ⟨_, by rw [A.out], HBW.out, fun _ => ⟨w.heap.size, w.heap.size + 1, rfl, by simp, by simp⟩⟩

set_option maxRecDepth 100000 in
set_option maxHeartbeats 2000000 in
theorem goal_any (B0 B1 : Nat) (t l : List Int) (i n : Int) (w : World) (ht : Tvl t) (hl : Lev t l) (hi : 0 ≤ i ∧ i < t.length) (h0 : w.cell? ⟨B0, 0, none⟩ = some (.int .i64 i)) (h1 : w.cell? ⟨B1, 0, none⟩ = some (.int .i64 n)) :
    Calls Try.prog 85 #[pad l, .pointer (some ⟨B0, 0, none⟩), .pointer (some ⟨B1, 0, none⟩)] w fun e w' => e = .returned (.bool (amtG i n l)) ∧ Below w.heap.size w w' := by
  have h4 := ht.hi
  unfold amtG pad levV
  obtain ⟨k, rfl⟩ := Int.eq_ofNat_of_zero_le hi.1
  have hk : k = 0 ∨ k = 1 ∨ k = 2 ∨ k = 3 := by omega
  have hal : Below w.heap.size w (w.alloc (.cells #[.int .i64 (l.getD 0 0), .int .i64 (l.getD 1 0), .int .i64 (l.getD 2 0), .int .i64 (l.getD 3 0)] 66)) := (Below.refl _ w).alloc (Nat.le_refl _) _
  have c0 := keep_cell hal h0
  have c1 := keep_cell hal h1
  have HA := Lib.hid hal
  rw [Int.toNat_natCast]
  clear h0 h1 hal hi
  have close : ∀ (k : Nat), k < 4 → w.cell? ⟨B0, 0, none⟩ = w.cell? ⟨B0, 0, none⟩ := fun _ _ => rfl
  clear close
  rcases hk with rfl | rfl | rfl | rfl
  · generalize l.getD 0 0 = p0 at *
    generalize l.getD 1 0 = p1 at *
    generalize l.getD 2 0 = p2 at *
    generalize l.getD 3 0 = p3 at *
    try simp only [Int.cast_ofNat_Int, Int.ofNat_zero, Int.ofNat_one] at c0 ⊢
    go_enter Try.func85, Try.ntmps85
    go_wp2
    go_region
    all_goals go_wp2
    all_goals go_ret
    all_goals exact ⟨rfl, HA.out.drew⟩
  · generalize l.getD 0 0 = p0 at *
    generalize l.getD 1 0 = p1 at *
    generalize l.getD 2 0 = p2 at *
    generalize l.getD 3 0 = p3 at *
    try simp only [Int.cast_ofNat_Int, Int.ofNat_zero, Int.ofNat_one] at c0 ⊢
    go_enter Try.func85, Try.ntmps85
    go_wp2
    go_region
    all_goals go_wp2
    all_goals go_ret
    all_goals exact ⟨rfl, HA.out.drew⟩
  · generalize l.getD 0 0 = p0 at *
    generalize l.getD 1 0 = p1 at *
    generalize l.getD 2 0 = p2 at *
    generalize l.getD 3 0 = p3 at *
    try simp only [Int.cast_ofNat_Int, Int.ofNat_zero, Int.ofNat_one] at c0 ⊢
    go_enter Try.func85, Try.ntmps85
    go_wp2
    go_region
    all_goals go_wp2
    all_goals go_ret
    all_goals exact ⟨rfl, HA.out.drew⟩
  · generalize l.getD 0 0 = p0 at *
    generalize l.getD 1 0 = p1 at *
    generalize l.getD 2 0 = p2 at *
    generalize l.getD 3 0 = p3 at *
    try simp only [Int.cast_ofNat_Int, Int.ofNat_zero, Int.ofNat_one] at c0 ⊢
    go_enter Try.func85, Try.ntmps85
    go_wp2
    go_region
    all_goals go_wp2
    all_goals go_ret
    all_goals exact ⟨rfl, HA.out.drew⟩

def dE (t : List Int) (i n : Int) : Int := if amtE t i n = 0 then (if (way t (zerosL t) (amtG i n)).isSome then 0 else 5) else amtE t i n
def dL (t : List Int) (i n : Int) : List Deed := if amtE t i n = 0 then (way t (zerosL t) (amtG i n)).getD [] else []

/-- The deeds of a search that has found. -/
theorem NewS.deeds {lv : Value} {t l : List Int} {g : List Int → Bool} {Bs M n k q : Nat} {W : World} (ht : Tvl t) (hl : Lev t l) (h1 : W.cell? ⟨Bs, 1, none⟩ = some lv) (h2 : W.cell? ⟨Bs, 2, none⟩ = some (.map (some M)))
    (hlev : LevsAt W lv (((full t l).take n).map fun e : Ent => e.1)) (hmp : W.ownsMap Try.prog 66 asIs M q (mapD (bfs t l k))) (hn : n ≤ (bfs t l k).length) (hf : FoundAt t l g n true) :
    ∃ ds, way t l g = some ds ∧ Calls Try.prog 61 #[.pointer (some ⟨Bs, 0, none⟩)] W fun e w' => ∃ ov, e = .returned ov ∧ DeedsAt w' ov ds ∧ Below W.heap.size W w' := by
  have hh := hf.hit
  rcases hf with ⟨_, i, rfl, hi, _, _⟩ | ⟨h, _⟩
  · have hp := full_prefix ht hl k
    have htk : (full t l).take (i + 1) = (bfs t l k).take (i + 1) := by
      obtain ⟨r, hr⟩ := hp
      rw [← hr, List.take_append_of_le_length (by omega)]
    rw [htk] at hlev
    refine ⟨((full t l).getD i noE).2.1, ?_, ?_⟩
    · unfold way
      rw [hh]
      simp
    · have := sdeeds_any Bs M k q i lv t l (bfs t l k) W ht hl (bfs_at ht hl k).good rfl h1 h2 hlev hn hmp
      rw [prefix_getD hp (show i < (bfs t l k).length by omega)]
      exact this
  · cases h
theorem FoundAt.none {t l : List Int} {g : List Int → Bool} {n : Nat} (h : FoundAt t l g n false) : way t l g = none := by
  unfold way
  rw [h.hit]
  rfl

set_option maxRecDepth 100000 in
set_option maxHeartbeats 2000000 in
theorem tDeeds_any (v : Value) (t : List Int) (i n : Int) (w : World) (hv : IntsAt w v t) :
    Calls Try.prog 24 #[v, .int .i64 i, .int .i64 n] w (GivesDE (dL t i n) (dE t i n) w) := by
  have A := Lib.hid (amount_any v t i n w hv)
  have V := Lib.hid hv
  obtain ⟨a, cap, rfl, _⟩ := hv
  by_cases hz : amtE t i n = 0
  · have hz' := amtE_zero hz
    have HDE := Lib.hid (show dE t i n = if (way t (zerosL t) (amtG i n)).isSome then 0 else 5 by unfold dE; rw [if_pos hz])
    have HDL := Lib.hid (show dL t i n = (way t (zerosL t) (amtG i n)).getD [] by unfold dL; rw [if_pos hz])
    have HZ := Lib.hid hz'
    have HZ0 := Lib.hid hz
    rw [hz] at A
    have HP := Lib.hid (zeros_pad t)
    clear hz hz'
    go_enter Try.func24, Try.ntmps24
    go_wp2_with fail
    refine A.out.mono ?_
    rintro e w1 ⟨fv, rfl, hb1, hf⟩
    obtain ⟨B0, B1, rfl, hc0, hc1⟩ := hf (by first | trivial | rfl)
    have NS := Lib.hid (newSearch_any (amtG i n) 85 #[.pointer (some ⟨B0, 0, none⟩), .pointer (some ⟨B1, 0, none⟩)] (enters_of Try.func85 (by kernel_rfl) rfl) _ t (zerosL t) w1 (V.out.below hb1) HZ.out.1 (zeros_lev HZ.out.1)
      (fun W l' hW hl' => goal_any B0 B1 t l' i n W HZ.out.1 hl' ⟨HZ.out.2.1, HZ.out.2.2.1⟩ (keep_cell hW hc0) (keep_cell hW hc1)))
    rw [HP.out] at NS
    have HB1 := Lib.hid hb1
    clear hf hc0 hc1 hb1 A
    go_wp2_with fail
    refine NS.out.mono ?_
    rintro e w2 ⟨Bs, M, lv, m, k, q, b, rfl, _, h1, h2, hlev, hmp, hm, hfo, hb2⟩
    have HB2 := Lib.hid (HB1.out.trans (hb2.mono HB1.out.size))
    cases b with
    | false =>
      have HW := Lib.hid hfo.none
      have HE : Hid (dE t i n = 5) := Lib.hid (by rw [HDE.out, HW.out]; rfl)
      have HL : Hid (dL t i n = []) := Lib.hid (by rw [HDL.out, HW.out]; rfl)
      clear h1 h2 hlev hmp hm hfo hb2 NS
      go_wp2
      refine bodyPost_ret (v := .tuple #[.slice none 0 0, .int .i64 5]) (by simp [results, Try.results24, go_sem]) rfl ⟨_, by rw [HE.out], by rw [HL.out]; exact deeds_nil _, HB2.out⟩
    | true =>
      obtain ⟨ds, hds, hC⟩ := NewS.deeds HZ.out.1 (zeros_lev HZ.out.1) h1 h2 hlev hmp hm hfo
      have HE : Hid (dE t i n = 0) := Lib.hid (by rw [HDE.out, hds]; rfl)
      have HL : Hid (dL t i n = ds) := Lib.hid (by rw [HDL.out, hds]; rfl)
      have C := Lib.hid hC
      clear h1 h2 hlev hmp hm hfo hb2 NS hds hC
      go_wp2_with fail
      refine C.out.mono ?_
      rintro e w3 ⟨ov, rfl, hov, hb3⟩
      have O := Lib.hid hov
      clear hov C
      go_wp2
      refine bodyPost_ret (v := .tuple #[ov, .int .i64 0]) (by simp [results, Try.results24, go_sem]) rfl ⟨_, by rw [HE.out], by rw [HL.out]; exact O.out, HB2.out.trans (hb3.mono HB2.out.size)⟩
  · have HE := Lib.hid (show dE t i n = amtE t i n by unfold dE; rw [if_neg hz])
    have HL := Lib.hid (show dL t i n = [] by unfold dL; rw [if_neg hz])
    generalize amtE t i n = ae at *
    have hb : (ae != 0) = true := bne_iff_ne.2 hz
    go_enter Try.func24, Try.ntmps24
    go_wp2_with fail
    refine A.out.mono ?_
    rintro e w1 ⟨fv, rfl, hb1, _⟩
    go_wp2
    refine bodyPost_ret (v := .tuple #[.slice none 0 0, .int .i64 ae]) (by simp [results, Try.results24, go_sem]) rfl ⟨_, by rw [HE.out], by rw [HL.out]; exact deeds_nil _, hb1⟩

set_option maxHeartbeats 1000000 in
theorem tLeast_any (v : Value) (t : List Int) (i n : Int) (w : World) (hv : IntsAt w v t) :
    Calls Try.prog 22 #[v, .int .i64 i, .int .i64 n] w fun e w' => e = .returned (.tuple #[.int .i64 (dL t i n).length, .int .i64 (dE t i n)]) ∧ Below w.heap.size w w' := by
  have A := Lib.hid (tDeeds_any v t i n w hv)
  obtain ⟨a, cap, rfl, _⟩ := hv
  generalize dE t i n = de at *
  generalize dL t i n = dl at *
  go_enter Try.func22, Try.ntmps22
  go_wp2_with fail
  refine A.out.mono ?_
  rintro e w1 ⟨ov, rfl, hov, hb1⟩
  obtain ⟨oa, ocap, rfl, _⟩ := hov
  go_wp2
  go_ret2
  exact ⟨rfl, hb1⟩

def canV (t : List Int) (i n : Int) : Bool := if dE t i n = 5 then false else dE t i n == 0
def canE (t : List Int) (i n : Int) : Int := if dE t i n = 5 then 0 else dE t i n

set_option maxHeartbeats 1000000 in
theorem tCan_any (v : Value) (t : List Int) (i n : Int) (w : World) (hv : IntsAt w v t) :
    Calls Try.prog 28 #[v, .int .i64 i, .int .i64 n] w fun e w' => e = .returned (.tuple #[.bool (canV t i n), .int .i64 (canE t i n)]) ∧ Below w.heap.size w w' := by
  have A := Lib.hid (tDeeds_any v t i n w hv)
  have H1 := Lib.hid (show canV t i n = if dE t i n = 5 then false else dE t i n == 0 from rfl)
  have H2 := Lib.hid (show canE t i n = if dE t i n = 5 then 0 else dE t i n from rfl)
  obtain ⟨a, cap, rfl, _⟩ := hv
  generalize canV t i n = cv at *
  generalize canE t i n = ce at *
  generalize dE t i n = de at *
  generalize dL t i n = dl at *
  by_cases h5 : de = 5
  · subst h5
    have E1 : Hid (cv = false) := Lib.hid (by rw [H1.out]; rfl)
    have E2 : Hid (ce = 0) := Lib.hid (by rw [H2.out]; rfl)
    go_enter Try.func28, Try.ntmps28
    go_wp2_with fail
    refine A.out.mono ?_
    rintro e w1 ⟨ov, rfl, hov, hb1⟩
    obtain ⟨oa, ocap, rfl, _⟩ := hov
    go_wp2
    go_ret2
    exact ⟨by rw [E1.out, E2.out]; rfl, hb1⟩
  · have E1 : Hid (cv = (de == 0)) := Lib.hid (by rw [H1.out, if_neg h5])
    have E2 : Hid (ce = de) := Lib.hid (by rw [H2.out, if_neg h5])
    have hb : (de == 5) = false := beq_eq_false_iff_ne.2 h5
    go_enter Try.func28, Try.ntmps28
    go_wp2_with fail
    refine A.out.mono ?_
    rintro e w1 ⟨ov, rfl, hov, hb1⟩
    obtain ⟨oa, ocap, rfl, _⟩ := hov
    go_wp2
    go_ret2
    exact ⟨by rw [E1.out, E2.out]; rfl, hb1⟩

end Go.Proofs.Ytikcpfpeoofppaa
