/- Contract: the reference's equal awards. -/
import Derived.Test.YtaakefjblldccaaR
import Derived.Test.YtaakefjblldccaaWat2
namespace Go.Proofs.Ytaakefjblldccaa
open Go.RowKit

theorem made_flat (n : Nat) : (madeCells (Value.agg #[.int .i64 0, .int .i64 0]).cells (n * 2)).toList = flatR (List.replicate n (0, 0)) := by
  apply List.ext_getElem?
  intro j
  by_cases hj : j < n * 2
  · have hd : j / 2 < n := by omega
    have h := flatR_at (List.replicate n ((0, 0) : Rat2)) (j / 2) (by simpa using hd)
    have e0 : (List.replicate n ((0, 0) : Rat2)).getD (j / 2) (0, 0) = (0, 0) := by simp [List.getD_eq_getElem?_getD, hd]
    rw [e0] at h
    have hm : (madeCells (Value.agg #[.int .i64 0, .int .i64 0]).cells (n * 2)).toList[j]? = some (.int .i64 0) := by
      rcases Nat.mod_two_eq_zero_or_one j with h2 | h2 <;> simp [madeCells, hj, Value.cells, h2]
    rw [hm]
    rcases Nat.mod_two_eq_zero_or_one j with h2 | h2
    · rw [show j = j / 2 * 2 by omega, h.1]
    · rw [show j = j / 2 * 2 + 1 by omega, h.2]
  · have h1 : (madeCells (Value.agg #[.int .i64 0, .int .i64 0]).cells (n * 2)).toList.length = n * 2 := by simp [madeCells]
    have h2 : (flatR (List.replicate n ((0, 0) : Rat2))).length = n * 2 := by simp [flatR, ratC, List.length_flatMap]
    rw [List.getElem?_eq_none (by omega), List.getElem?_eq_none (by omega)]

/-- Filled up to k. -/
def fillTo (p q : Int) (o : List Rat2) (k : Nat) : List Rat2 := (o.take k).map (fillZ p q) ++ o.drop k
theorem fillTo_length (p q : Int) (o : List Rat2) (k : Nat) (hk : k ≤ o.length) : (fillTo p q o k).length = o.length := by
  unfold fillTo; simp; omega
theorem fillTo_at {p q : Int} {o : List Rat2} {k : Nat} (hk : k < o.length) : (fillTo p q o k).getD k (0, 0) = o.getD k (0, 0) := by
  unfold fillTo
  have : ((o.take k).map (fillZ p q)).length = k := by simp; omega
  simp only [List.getD_eq_getElem?_getD]
  rw [List.getElem?_append_right (by omega), this, List.getElem?_drop]
  simp
theorem fillTo_set {p q : Int} {o : List Rat2} {k : Nat} (hk : k < o.length) : (fillTo p q o k).set k (fillZ p q (o.getD k (0, 0))) = fillTo p q o (k + 1) := by
  unfold fillTo
  have : ((o.take k).map (fillZ p q)).length = k := by simp; omega
  have e : o.drop k = o[k] :: o.drop (k + 1) := List.drop_eq_getElem_cons hk
  have e2 : o.take (k + 1) = o.take k ++ [o.getD k (0, 0)] := by
    rw [List.take_succ_eq_append_getElem hk, List.getD_eq_getElem?_getD, List.getElem?_eq_getElem hk]; rfl
  rw [List.set_append_right _ _ (by omega), this, Nat.sub_self, e, e2]
  simp only [List.set_cons_zero, List.append_assoc, List.singleton_append, List.map_append, List.map_cons, List.map_nil]
theorem set_self {o : List Rat2} {k : Nat} (hk : k < o.length) : o.set k (o.getD k (0, 0)) = o := by
  rw [List.getD_eq_getElem?_getD, List.getElem?_eq_getElem hk]
  simp
theorem fillTo_skip {p q : Int} {o : List Rat2} {k : Nat} (hk : k < o.length) (h : (o.getD k (0, 0)).2 ≠ 0) : fillTo p q o k = fillTo p q o (k + 1) := by
  have h1 := fillTo_set (p := p) (q := q) hk
  have h2 : fillZ p q (o.getD k (0, 0)) = o.getD k (0, 0) := by unfold fillZ; rw [if_neg h]
  rw [h2, ← fillTo_at (p := p) (q := q) hk, set_self (by rw [fillTo_length _ _ _ _ (by omega)]; exact hk)] at h1
  exact h1
theorem fillTo_end (p q : Int) (o : List Rat2) : fillTo p q o o.length = o.map (fillZ p q) := by
  unfold fillTo; rw [List.drop_length, List.append_nil, List.take_length]

def bN (v : Value) : Nat := match v with | .bool true => 1 | _ => 0

/-- Between two tries. -/
structure EqI (c : List Int) (e : Int) (w : World) (vo : Value) (left0 : Int) (i : Nat) (o : List Rat2) (rest left : Int) (b : Bool) (wr : World) : Prop where
  rs : RS c e o rest left
  le : left ≤ left0
  lt : b = true → left < left0
  no : b = false → ∀ j, j < i → (o.getD j (0, 0)).2 = 0 → rest < c.getD j 0 * left
  r8 : rest ≤ 8000
  own : OwnR wr w.heap.size vo o
  bel : Below w.heap.size w wr

set_option maxRecDepth 100000 in
set_option maxHeartbeats 6400000 in
theorem requal_any (v : Value) (c : List Int) (e0 : Int) (w : World) (hv : IntsAt w v c) (hc : Cvl c) (he : 0 ≤ e0) (hes : e0 ≤ tot c) :
    Calls Try.prog 76 #[v, .int .i64 e0] w (GivesR (eqW c e0) w) := by
  obtain ⟨i0, hi0, hz0, hz1, hz2⟩ := info_parts Try.infoRatio
  have HH := Lib.hid hc
  have hhi := hc.hi
  have hlo := hc.lo
  have ht := hc.tot
  have e8 : e0 ≤ 8000 := by omega
  obtain ⟨b, off, cap, rfl, hcc⟩ := ints_cell hv (by omega)
  have HC := Lib.hid hcc
  have HT := Lib.hid hes
  have HP := Lib.hid hc.pos
  have ST := Lib.hid (RS.start c he)
  clear hv hcc hc hes ht
  go_enter Try.func76, Try.ntmps76
  go_wp2_with (at_make; refine wpList_make_full _ rfl _ _ 30 rfl w.heap.size 23 i0 (.agg #[.int .i64 0, .int .i64 0]) 2 Try.underlying30 hi0 hz0 hz1 .i64 .i64 _ _ c.length rfl rfl rfl rfl (by rw [hz2]; omega) (by unfold maxLen; omega) (Nat.le_refl _) ?_; intro w1 hown1 hgrow1)
  have O1 : OwnR w1 w.heap.size (.slice (some ⟨w.heap.size, 0, none⟩) c.length c.length) (List.replicate c.length (0, 0)) := by
    unfold OwnR
    rw [← made_flat, List.length_replicate]
    exact hown1
  have B1 : Below w.heap.size w w1 := (Below.refl _ w).grown hgrow1 (Nat.le_refl _) (fun k e => by cases e)
  clear hown1 hgrow1
  go_loopw [6, 7, 8, 9] (fun r l a _ wr => ∃ (o : List Rat2) (rest left : Int) (bb : Bool), r = .int .i64 rest ∧ l = .int .i64 left ∧ a = .bool bb ∧ EqI c e0 w (.slice (some ⟨w.heap.size, 0, none⟩) c.length c.length) 8 (if bb then 0 else c.length) o rest left false wr) (fun _ l a _ _ => 2 * (intOf l).toNat + bN a)
  case atStart => exact ⟨_, e0, c.length, true, rfl, rfl, rfl, ⟨ST.out, by omega, fun h => by simp at h, fun _ j hj => by simp at hj, e8, O1, B1⟩⟩
  case round =>
    obtain ⟨o0, rest0, left0, bb, rfl, rfl, rfl, EI⟩ := hrel
    obtain ⟨wo, rfl⟩ : ∃ wo : World, wo = wr := ⟨_, rfl⟩
    have hl0 := cntZ_nonneg o0
    rw [← EI.rs.lf] at hl0
    have hl8 := EI.le
    cases bb with
    | false =>
      have HE := Lib.hid EI
      have ho := EI.own
      have hb := EI.bel
      have hlen := EI.rs.len
      have hlw : w.heap.size < wo.heap.size := by
        obtain ⟨g, cp, he, _, h2⟩ := ho.split (by omega)
        simp only [Value.slice.injEq, Option.some.injEq, Addr.mk.injEq] at he
        omega
      have R8 := EI.r8
      have R0 := EI.rs.r0
      have FE : Hid (fillTo rest0 left0 o0 c.length = eqW c e0) := Lib.hid (by
        rw [← hlen, fillTo_end]
        exact EI.rs.fin HH.out.ne HH.out.holds HT.out (fun k hk h => EI.no rfl k (by simpa using hk) h))
      have HO := Lib.hid ho
      have HB := Lib.hid hb
      clear EI ho hb
      go_wp2
      go_loopw [10] (fun i wr => ∃ k : Nat, k ≤ c.length ∧ i = .int .i64 k ∧ OwnR wr w.heap.size (.slice (some ⟨w.heap.size, 0, none⟩) c.length c.length) (fillTo rest0 left0 o0 k) ∧ Below w.heap.size w wr ∧ w.heap.size < wr.heap.size) (fun i _ => c.length - (intOf i).toNat)
      case atStart => exact ⟨0, Nat.zero_le _, rfl, by have := HO.out; unfold fillTo; simpa using this, HB.out, hlw⟩
      case round =>
        obtain ⟨k, hk, rfl, hown, hbel, hgr⟩ := hrel
        by_cases hlt : k < c.length
        · have hko : k < o0.length := by omega
          have hfl := fillTo_length rest0 left0 o0 k (by omega)
          have hn : c.length = (fillTo rest0 left0 o0 k).length := by omega
          obtain ⟨x1, d1, f1, f2⟩ := hown.cells (k := k) hn (by omega)
          rw [fillTo_at hko] at x1 d1
          have HN := Lib.hid hn
          have HO2 := Lib.hid hown
          have HB2 := Lib.hid hbel
          have hkf : k < (fillTo rest0 left0 o0 k).length := by omega
          clear hn hown hbel hfl
          rcases HE.out.rs.each k hlt with hz | hz
          · have hl1 : 1 ≤ left0 := by have := cntZ_pos o0 k hko (by rw [hz]); rw [HE.out.rs.lf]; exact this
            have T : Hid ((fillTo rest0 left0 o0 k).set k (rn rest0 left0, rd rest0 left0) = fillTo rest0 left0 o0 (k + 1)) := Lib.hid (by
              rw [← fillTo_set hko, hz]; rfl)
            rw [hz] at x1 d1
            clear hz
            go_wp2_with fail
            refine (rRatio_any _ _ _ (by omega) (by omega) (by omega) (by omega)).mono ?_
            rintro e w2 ⟨rfl, hb2⟩
            have hownW := HO2.out.below hb2
            obtain ⟨x2, d2, g1, g2⟩ := hownW.cells (k := k) HN.out hkf
            have hbW := below_trans HB2.out hb2
            have O3 := Lib.hid (hownW.set HN.out (k := k) hkf (rn rest0 left0, rd rest0 left0))
            have hgw : w.heap.size < w2.heap.size := by have := hb2.size; omega
            have B3 := Lib.hid ((hbW.setCell (p := ⟨w.heap.size, k * 2, none⟩) (Nat.le_refl _) (.int .i64 (rn rest0 left0))).setCell (p := ⟨w.heap.size, k * 2 + 1, none⟩) (Nat.le_refl _) (.int .i64 (rd rest0 left0)))
            unfold ratV
            clear hownW hbW hb2 x1 d1 f1 f2
            go_wp2
            go_roundw
            case rel => exact ⟨k + 1, by omega, by go_num, (by rw [← T.out]; exact O3.out), B3.out, by simpa using hgw⟩
            case measure => simp [intOf]; omega
          · have T : Hid (fillTo rest0 left0 o0 k = fillTo rest0 left0 o0 (k + 1)) := Lib.hid (fillTo_skip hko (by rw [hz]; simp))
            rw [hz] at x1 d1
            clear hz
            go_wp2
            go_roundw
            case rel => exact ⟨k + 1, by omega, by go_num, (by rw [← T.out]; exact HO2.out), HB2.out, hgr⟩
            case measure => simp [intOf]; omega
        · have e : k = c.length := by omega
          subst e
          have O : Hid (OwnR wr w.heap.size (.slice (some ⟨w.heap.size, 0, none⟩) c.length c.length) (eqW c e0)) := Lib.hid (by rwa [FE.out] at hown)
          have B := Lib.hid hbel
          clear hown hbel
          go_wp2
          go_ret
          exact ⟨_, rfl, O.out, B.out⟩
    | true =>
      have E0 := Lib.hid EI
      clear EI
      go_wp2
      go_loopw [6, 7, 8, 9] (fun r l a i wr => ∃ (k : Nat) (o : List Rat2) (rest left : Int) (bb : Bool), k ≤ c.length ∧ i = .int .i64 k ∧ r = .int .i64 rest ∧ l = .int .i64 left ∧ a = .bool bb ∧ EqI c e0 w (.slice (some ⟨w.heap.size, 0, none⟩) c.length c.length) left0 k o rest left bb wr) (fun _ _ _ i _ => c.length - (intOf i).toNat)
      case atStart => exact ⟨0, o0, rest0, left0, false, Nat.zero_le _, rfl, rfl, rfl, rfl, ⟨E0.out.rs, Int.le_refl _, fun h => by simp at h, fun _ j hj => by omega, E0.out.r8, E0.out.own, E0.out.bel⟩⟩
      case round =>
        obtain ⟨k, o, rest, left, bb, hk, rfl, rfl, rfl, rfl, EI⟩ := hrel
        have hl1 := cntZ_nonneg o
        rw [← EI.rs.lf] at hl1
        have hl9 := EI.le
        have hr0 := EI.rs.r0
        have hr8 := EI.r8
        by_cases hlt : k < c.length
        · have hx := HH.out.holds _ (mem_getD hlt)
          have hcell := keep_cell EI.bel (HC.out k hlt)
          have hn := EI.rs.len.symm
          have hko : k < o.length := by omega
          obtain ⟨x1, d1, f1, f2⟩ := EI.own.cells (k := k) hn hko
          have HE := Lib.hid EI
          have HN := Lib.hid hn
          have m1 : 0 ≤ c.getD k 0 * left ∧ c.getD k 0 * left ≤ 1000 * 8 := ⟨Int.mul_nonneg (by omega) (by omega), Int.mul_le_mul (by omega) (by omega) (by omega) (by omega)⟩
          clear EI hn
          rcases HE.out.rs.each k hlt with hz | hz
          · rw [hz] at x1 d1
            by_cases hp : c.getD k 0 * left ≤ rest
            · have PR := Lib.hid (HE.out.rs.pay HP.out hlt (by rw [hz]) hp)
              have hl2 := PR.out.2
              have R1 : Hid (ratV (c.getD k 0) 1 = .agg #[.int .i64 (c.getD k 0), .int .i64 1]) := Lib.hid (by rw [ratV_red, red_one])
              clear hz
              generalize c.getD k 0 = x at *
              go_wp2_with fail
              refine (rRatio_any _ _ _ (by omega) (by omega) (by omega) (by omega)).mono ?_
              rintro e w2 ⟨rfl, hb2⟩
              rw [R1.out]
              have hownW := HE.out.own.below hb2
              obtain ⟨x2, d2, g1, g2⟩ := hownW.cells (k := k) HN.out hko
              have hbW := below_trans HE.out.bel hb2
              have O3 := Lib.hid (hownW.set HN.out (k := k) hko (x, 1))
              have B3 := Lib.hid ((hbW.setCell (p := ⟨w.heap.size, k * 2, none⟩) (Nat.le_refl _) (.int .i64 x)).setCell (p := ⟨w.heap.size, k * 2 + 1, none⟩) (Nat.le_refl _) (.int .i64 1))
              have hcell2 := keep_cell hb2 hcell
              have hbl : b ≠ w.heap.size := by
                have := World.block_lt_of_cell? _ _ (HC.out k hlt)
                simp only at this
                omega
              clear hownW hbW hb2 x1 d1 f1 f2 hcell
              go_wp2
              go_roundw
              case rel => exact ⟨k + 1, o.set k (x, 1), rest - x, left - 1, true, by omega, by go_num, rfl, rfl, rfl, ⟨PR.out.1, by omega, fun _ => by omega, fun h => by simp at h, by omega, O3.out, B3.out⟩⟩
              case measure => simp [intOf]; omega
            · have hp' : decide (c.getD k 0 * left ≤ rest) = false := decide_eq_false hp
              have EN : Hid (EqI c e0 w (.slice (some ⟨w.heap.size, 0, none⟩) c.length c.length) left0 (k + 1) o rest left bb wr) := Lib.hid ⟨HE.out.rs, HE.out.le, HE.out.lt, fun hb j hj h0 => by
                rcases Nat.lt_succ_iff_lt_or_eq.1 hj with h | rfl
                · exact HE.out.no hb j h h0
                · omega, HE.out.r8, HE.out.own, HE.out.bel⟩
              clear hz
              generalize c.getD k 0 = x at *
              go_wp2
              go_roundw
              case rel => exact ⟨k + 1, o, rest, left, bb, by omega, by go_num, rfl, rfl, rfl, EN.out⟩
              case measure => simp [intOf]; omega
          · rw [hz] at x1 d1
            have EN : Hid (EqI c e0 w (.slice (some ⟨w.heap.size, 0, none⟩) c.length c.length) left0 (k + 1) o rest left bb wr) := Lib.hid ⟨HE.out.rs, HE.out.le, HE.out.lt, fun hb j hj h0 => by
              rcases Nat.lt_succ_iff_lt_or_eq.1 hj with h | rfl
              · exact HE.out.no hb j h h0
              · rw [hz] at h0; simp at h0, HE.out.r8, HE.out.own, HE.out.bel⟩
            clear hz
            generalize c.getD k 0 = x at *
            go_wp2
            go_roundw
            case rel => exact ⟨k + 1, o, rest, left, bb, by omega, by go_num, rfl, rfl, rfl, EN.out⟩
            case measure => simp [intOf]; omega
        · have e : k = c.length := by omega
          subst e
          have HE := Lib.hid EI
          clear EI
          cases bb with
          | true =>
            have hlt2 := HE.out.lt rfl
            go_wp2
            go_roundw
            case rel => exact ⟨o, rest, left, true, rfl, rfl, rfl, ⟨HE.out.rs, by omega, fun h => by simp at h, fun _ j hj => by simp at hj, HE.out.r8, HE.out.own, HE.out.bel⟩⟩
            case measure => simp [intOf, bN]; omega
          | false =>
            go_wp2
            go_roundw
            case rel => exact ⟨o, rest, left, false, rfl, rfl, rfl, ⟨HE.out.rs, by omega, fun h => by simp at h, fun _ j hj => HE.out.no rfl j (by simpa using hj), HE.out.r8, HE.out.own, HE.out.bel⟩⟩
            case measure => simp [intOf, bN]; omega

end Go.Proofs.Ytaakefjblldccaa
