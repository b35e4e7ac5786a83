/- Contract: what a deed does, of the reference. -/
import Derived.Test.YtikcpfpeoofppaaB
namespace Go.Proofs.Ytikcpfpeoofppaa
open Go.RowKit

theorem Try.infoInt : (Try.prog.info? 3).map (fun i => (i.zero, i.size, i.bytes)) = some (some (.int .i64 0), 1, 8) := by kernel_rfl

theorem add_plain2 (b o j : Nat) : (⟨b, o, none⟩ : Addr).add j = ⟨b, o + j, none⟩ := by simp [Addr.add]

theorem ints_news {w : World} {b off : Nat} {l : List Int} (hc : ∀ j, j < l.length → w.cell? ⟨b, off + j, none⟩ = some (.int .i64 (l.getD j 0))) (o : Obj) :
    ∀ j u, (l.map (Value.int .i64))[j]? = some u → (w.alloc o).cell? ((⟨b, off, none⟩ : Addr).add j) = some u := by
  intro j u hu
  rw [List.getElem?_map, Option.map_eq_some_iff] at hu
  obtain ⟨y, hy, rfl⟩ := hu
  obtain ⟨hj, rfl⟩ := List.getElem?_eq_some_iff.1 hy
  have := keep_cell ((Below.refl _ w).alloc (Nat.le_refl _) o) (hc j hj)
  rw [List.getD_eq_getElem?_getD, List.getElem?_eq_getElem hj] at this
  rw [add_plain2]
  exact this.trans (by simp)

theorem int_vals_one (l : List Int) : ∀ u ∈ l.map (Value.int .i64), u.oneCell' = true := by
  intro u hu; obtain ⟨y, _, rfl⟩ := List.mem_map.1 hu; rfl

theorem clone_below {w w1 : World} {t : TypeId} {n : Nat} (hn : w.heap.size = n) (hg : (w.alloc (.cells #[] t)).grownBy w1 (Value.ownBlock (.slice (some ⟨n, 0, none⟩) 0 0))) : Below w.heap.size w w1 :=
  ((Below.refl _ w).alloc (Nat.le_refl _) _).grown hg (by simp) (fun k e => by simp [Value.ownBlock] at e; omega)

def GivesI (l : List Int) (w : World) (e : Ending) (w' : World) : Prop := ∃ ov, e = .returned ov ∧ IntsAt w' ov l ∧ Below w.heap.size w w' ∧ (∀ k, ov.ownBlock = some k → w.heap.size ≤ k)

/-- An owned row of ints, with its cells. -/
structure Own (B : Nat) (w : World) (g cap : Nat) (l : List Int) : Prop where
  row : w.ownsRow B 3 1 (.slice (some ⟨g, 0, none⟩) l.length cap) l.length (l.map (Value.int .i64))
  base : B ≤ g

theorem Own.cell {B : Nat} {w : World} {g cap : Nat} {l : List Int} (h : Own B w g cap l) (j : Nat) (hj : j < l.length) : w.cell? ⟨g, j, none⟩ = some (.int .i64 (l.getD j 0)) := by
  rw [h.row.cellAt j (by omega)]
  simp [List.getD_eq_getElem?_getD, hj]
theorem Own.frozen {B : Nat} {w : World} {g cap : Nat} {l : List Int} (h : Own B w g cap l) (j : Nat) : w.frozen? ⟨g, j, none⟩ = false := h.row.frozenAt j

theorem Own.set {B : Nat} {w : World} {g cap : Nat} {l : List Int} (h : Own B w g cap l) (j : Nat) (x : Int) : Own B (w.setCell ⟨g, j, none⟩ (.int .i64 x)) g cap (l.set j x) :=
  ⟨by
    have := (h.row.stored j (.int .i64 x)).1
    have e : (l.set j x).length = l.length := List.length_set
    rw [← List.map_set] at this
    rw [e]
    exact this, h.base⟩

theorem Own.ints {B : Nat} {w : World} {g cap : Nat} {l : List Int} (h : Own B w g cap l) (hl : l.length ≤ 9223372036854775807) : IntsAt w (.slice (some ⟨g, 0, none⟩) l.length cap) l := own_ints h.row hl

theorem own_form {B : Nat} {w : World} {v : Value} {l : List Int} (h : w.ownsRow B 3 1 v l.length (l.map (Value.int .i64))) (h0 : 0 < l.length) : ∃ g cap, v = .slice (some ⟨g, 0, none⟩) l.length cap ∧ Own B w g cap l ∧ g < w.heap.size := by
  rcases h.2 with ⟨_, h1⟩ | ⟨g, cap, cur, rfl, hb, hg, hr⟩
  · omega
  · refine ⟨g, cap, rfl, ⟨⟨h.1, .inr ⟨g, cap, cur, rfl, hb, hg, hr⟩⟩, hb⟩, ?_⟩
    exact (Array.getElem?_eq_some_iff.1 hg).1


/-- Levels that are ones for tanks. -/
def Lev (t l : List Int) : Prop := l.length = t.length ∧ ∀ j, j < t.length → 0 ≤ l.getD j 0 ∧ l.getD j 0 ≤ t.getD j 0

theorem Own.drewN {B : Nat} {w : World} {g cap : Nat} {l : List Int} (h : Own B w g cap l) (n : Nat) : Own B (w.drewN n) g cap l := ⟨h.row, h.base⟩

theorem Own.give {B n : Nat} {w : World} {g cap : Nat} {l : List Int} (h : Own B w g cap l) (hn : l.length = n) (hl : n ≤ 4) : IntsAt w (.slice (some ⟨g, 0, none⟩) n cap) l := by
  subst hn
  exact h.ints (by omega)

set_option maxRecDepth 100000 in
set_option maxHeartbeats 1000000 in
theorem done_fill (v y : Value) (t l : List Int) (from' : Int) (k : Nat) (w : World) (hv : IntsAt w v t) (ht : Tvl t) (hx : IntsAt w y l) (hl : Lev t l) (hk : k < t.length) :
    Calls Try.prog 58 #[v, y, .agg #[.int .i64 1, .int .i64 from', .int .i64 k]] w (GivesI (l.set k (t.getD k 0)) w) := by
  have hlo := ht.lo
  have hhi := ht.hi
  have hl2 : 2 ≤ l.length := by have := hl.1; omega
  have hl4 : l.length ≤ 4 := by have := hl.1; omega
  have hkl : k < l.length := by have := hl.1; omega
  obtain ⟨tb, toff, tcap, rfl, htc⟩ := ints_cell hv (by omega)
  have ht1 := htc k (by omega)
  clear htc
  generalize t.getD k 0 = x at *
  have hal : Below w.heap.size w (w.alloc (.cells #[.int .i64 1, .int .i64 from', .int .i64 k] 43)) := (Below.refl _ w).alloc (Nat.le_refl _) _
  obtain ⟨lb, lo, lc, rfl, hic⟩ := ints_cell (hx.below hal) (by omega)
  have NW := Lib.hid (ints_news hic (.cells #[] 3))
  obtain ⟨j0, hj0, hy0, hy1, hy2⟩ := info_parts Try.infoInt
  have hown0 := World.ownsRow_made (base := (w.alloc (.cells #[.int .i64 1, .int .i64 from', .int .i64 k] 43)).heap.size) (e := 3) (size := 1) (w.alloc (.cells #[.int .i64 1, .int .i64 from', .int .i64 k] 43)) #[] 0 (Nat.le_refl _) (by decide) rfl
  simp only [World.size_alloc] at hown0
  have htb : tb < w.heap.size := World.block_lt_of_cell? _ _ ht1
  have ht2 := keep_cell hal ht1
  clear ht1 hic hv hx
  go_enter Try.func58, Try.ntmps58
  go_wp2_with (at_builtin; go_loud (refine wpList_append_own _ rfl (.tmp 8) (.tmp 9) 29 rfl (w.heap.size + 1) 3 j0 (.int .i64 0) 1 8 Try.underlying29 hj0 hy0 hy1 hy2 rfl (by decide) _ _ _ rfl hown0 ⟨lb, lo, none⟩ l.length lc (l.map (Value.int .i64)) rfl (by simp) NW.out (int_vals_one l) (by unfold maxLen; omega) (by omega) (by simp) ?_))
  intro ov w2 hov0 hgr0 _
  have hb2 := clone_below (World.size_alloc _ _) hgr0
  obtain ⟨g, cap, rfl, O, hg⟩ := own_form hov0 (by omega)
  have hb3 := below_trans hal hb2
  have ht3 := keep_cell hb2 ht2
  have c0 : w2.cell? ⟨w.heap.size, 0, none⟩ = some (.int .i64 1) := keep_cell hb2 (by simp)
  have c1 : w2.cell? ⟨w.heap.size, 1, none⟩ = some (.int .i64 from') := keep_cell hb2 (by simp)
  have c2 : w2.cell? ⟨w.heap.size, 2, none⟩ = some (.int .i64 k) := keep_cell hb2 (by simp)
  have hgb := O.base
  clear hov0 hgr0 hown0 hb2 hal ht2 NW
  have k1 := O.cell k (by omega)
  have f1 := O.frozen k
  have O2 := Lib.hid (O.set k x)
  generalize l.getD k 0 = z at *
  go_wp2
  go_region
  all_goals go_wp2
  go_ret
  exact ⟨_, rfl, (O2.out.give List.length_set hl4).below ((Below.refl _ _).drew), (hb3.setCell (by simp only; omega) _).drew, fun i hi => by simp [Value.ownBlock] at hi; omega⟩

set_option maxRecDepth 100000 in
set_option maxHeartbeats 1000000 in
theorem done_empty (v y : Value) (t l : List Int) (from' : Int) (k : Nat) (w : World) (hv : IntsAt w v t) (ht : Tvl t) (hx : IntsAt w y l) (hl : Lev t l) (hk : k < t.length) :
    Calls Try.prog 58 #[v, y, .agg #[.int .i64 2, .int .i64 from', .int .i64 k]] w (GivesI (l.set k 0) w) := by
  have hlo := ht.lo
  have hhi := ht.hi
  have hl2 : 2 ≤ l.length := by have := hl.1; omega
  have hl4 : l.length ≤ 4 := by have := hl.1; omega
  have hkl : k < l.length := by have := hl.1; omega
  obtain ⟨tb, toff, tcap, rfl, htc⟩ := ints_cell hv (by omega)
  have ht1 := htc k (by omega)
  clear htc
  generalize t.getD k 0 = x at *
  have hal : Below w.heap.size w (w.alloc (.cells #[.int .i64 2, .int .i64 from', .int .i64 k] 43)) := (Below.refl _ w).alloc (Nat.le_refl _) _
  obtain ⟨lb, lo, lc, rfl, hic⟩ := ints_cell (hx.below hal) (by omega)
  have NW := Lib.hid (ints_news hic (.cells #[] 3))
  obtain ⟨j0, hj0, hy0, hy1, hy2⟩ := info_parts Try.infoInt
  have hown0 := World.ownsRow_made (base := (w.alloc (.cells #[.int .i64 2, .int .i64 from', .int .i64 k] 43)).heap.size) (e := 3) (size := 1) (w.alloc (.cells #[.int .i64 2, .int .i64 from', .int .i64 k] 43)) #[] 0 (Nat.le_refl _) (by decide) rfl
  simp only [World.size_alloc] at hown0
  have htb : tb < w.heap.size := World.block_lt_of_cell? _ _ ht1
  have ht2 := keep_cell hal ht1
  clear ht1 hic hv hx
  go_enter Try.func58, Try.ntmps58
  go_wp2_with (at_builtin; go_loud (refine wpList_append_own _ rfl (.tmp 8) (.tmp 9) 29 rfl (w.heap.size + 1) 3 j0 (.int .i64 0) 1 8 Try.underlying29 hj0 hy0 hy1 hy2 rfl (by decide) _ _ _ rfl hown0 ⟨lb, lo, none⟩ l.length lc (l.map (Value.int .i64)) rfl (by simp) NW.out (int_vals_one l) (by unfold maxLen; omega) (by omega) (by simp) ?_))
  intro ov w2 hov0 hgr0 _
  have hb2 := clone_below (World.size_alloc _ _) hgr0
  obtain ⟨g, cap, rfl, O, hg⟩ := own_form hov0 (by omega)
  have hb3 := below_trans hal hb2
  have ht3 := keep_cell hb2 ht2
  have c0 : w2.cell? ⟨w.heap.size, 0, none⟩ = some (.int .i64 2) := keep_cell hb2 (by simp)
  have c1 : w2.cell? ⟨w.heap.size, 1, none⟩ = some (.int .i64 from') := keep_cell hb2 (by simp)
  have c2 : w2.cell? ⟨w.heap.size, 2, none⟩ = some (.int .i64 k) := keep_cell hb2 (by simp)
  have hgb := O.base
  clear hov0 hgr0 hown0 hb2 hal ht2 NW
  have k1 := O.cell k (by omega)
  have f1 := O.frozen k
  have O2 := Lib.hid (O.set k 0)
  generalize l.getD k 0 = z at *
  go_wp2
  go_ret
  exact ⟨_, rfl, O2.out.give List.length_set hl4, hb3.setCell (by simp only; omega) _, fun i hi => by simp [Value.ownBlock] at hi; omega⟩

/-- The levels when j is poured from f to k. -/
def pour (l : List Int) (f k : Nat) (a b j : Int) : List Int := (l.set f (a - j)).set k (b + j)
theorem pour_length (l : List Int) (f k : Nat) (a b j : Int) : (pour l f k a b j).length = l.length := by simp [pour]
theorem pour_zero {l : List Int} {f k : Nat} (hf : f < l.length) (hk : k < l.length) : pour l f k (l.getD f 0) (l.getD k 0) 0 = l := by
  unfold pour
  rw [Int.sub_zero, Int.add_zero]
  apply List.ext_getElem (by simp)
  intro i h1 h2
  rw [List.getElem_set, List.getElem_set]
  split
  · rename_i h; subst h; simp [List.getD_eq_getElem?_getD, hk]
  · split
    · rename_i h; subst h; simp [List.getD_eq_getElem?_getD, hf]
    · rfl
theorem pour_from {l : List Int} {f k : Nat} (hf : f < l.length) (hfk : f ≠ k) (a b j : Int) : (pour l f k a b j).getD f 0 = a - j := by
  simp [pour, List.getD_eq_getElem?_getD, hf, Ne.symm hfk]
theorem pour_to {l : List Int} {f k : Nat} (hk : k < l.length) (a b j : Int) : (pour l f k a b j).getD k 0 = b + j := by
  simp [pour, List.getD_eq_getElem?_getD, hk]
theorem pour_succ {l : List Int} {f k : Nat} (hfk : f ≠ k) (a b j : Int) : ((pour l f k a b j).set f (a - j - 1)).set k (b + j + 1) = pour l f k a b (j + 1) := by
  unfold pour
  rw [List.set_comm _ _ (Ne.symm hfk), List.set_set, List.set_set, show a - (j + 1) = a - j - 1 by omega, show b + (j + 1) = b + j + 1 by omega]

/-- What a cell holds, as a number. -/
def cellN (w : World) (a : Addr) : Nat := match w.cell? a with | some (.int _ n) => n.toNat | _ => 0
theorem cellN_of {w : World} {a : Addr} {n : Int} (h : w.cell? a = some (.int .i64 n)) : cellN w a = n.toNat := by simp [cellN, h]

set_option maxRecDepth 100000 in
set_option maxHeartbeats 1000000 in
theorem done_pour (v y : Value) (t l : List Int) (f k : Nat) (w : World) (hv : IntsAt w v t) (ht : Tvl t) (hx : IntsAt w y l) (hl : Lev t l) (hk : k < t.length) (hf : f < t.length) (hfk : f ≠ k) :
    Calls Try.prog 58 #[v, y, .agg #[.int .i64 3, .int .i64 f, .int .i64 k]] w (GivesI (pour l f k (l.getD f 0) (l.getD k 0) (min (l.getD f 0) (t.getD k 0 - l.getD k 0))) w) := by
  have hlo := ht.lo
  have hhi := ht.hi
  have hfl : f < l.length := by have := hl.1; omega
  have l1 := hl.2 f hf
  have l2 := hl.2 k hk
  have l3 := ht.holds _ (mem_getD hf)
  have l4 := ht.holds _ (mem_getD hk)
  have hl2 : 2 ≤ l.length := by have := hl.1; omega
  have hl4 : l.length ≤ 4 := by have := hl.1; omega
  have hkl : k < l.length := by have := hl.1; omega
  obtain ⟨tb, toff, tcap, rfl, htc⟩ := ints_cell hv (by omega)
  have ht1 := htc k (by omega)
  clear htc
  generalize t.getD k 0 = x at *
  have hal : Below w.heap.size w (w.alloc (.cells #[.int .i64 3, .int .i64 f, .int .i64 k] 43)) := (Below.refl _ w).alloc (Nat.le_refl _) _
  obtain ⟨lb, lo, lc, rfl, hic⟩ := ints_cell (hx.below hal) (by omega)
  have NW := Lib.hid (ints_news hic (.cells #[] 3))
  obtain ⟨j0, hj0, hy0, hy1, hy2⟩ := info_parts Try.infoInt
  have hown0 := World.ownsRow_made (base := (w.alloc (.cells #[.int .i64 3, .int .i64 f, .int .i64 k] 43)).heap.size) (e := 3) (size := 1) (w.alloc (.cells #[.int .i64 3, .int .i64 f, .int .i64 k] 43)) #[] 0 (Nat.le_refl _) (by decide) rfl
  simp only [World.size_alloc] at hown0
  have htb : tb < w.heap.size := World.block_lt_of_cell? _ _ ht1
  have ht2 := keep_cell hal ht1
  clear ht1 hic hv hx
  go_enter Try.func58, Try.ntmps58
  go_wp2_with (at_builtin; go_loud (refine wpList_append_own _ rfl (.tmp 8) (.tmp 9) 29 rfl (w.heap.size + 1) 3 j0 (.int .i64 0) 1 8 Try.underlying29 hj0 hy0 hy1 hy2 rfl (by decide) _ _ _ rfl hown0 ⟨lb, lo, none⟩ l.length lc (l.map (Value.int .i64)) rfl (by simp) NW.out (int_vals_one l) (by unfold maxLen; omega) (by omega) (by simp) ?_))
  intro ov w2 hov0 hgr0 _
  have hb2 := clone_below (World.size_alloc _ _) hgr0
  obtain ⟨g, cap, rfl, O, hg⟩ := own_form hov0 (by omega)
  have hb3 := below_trans hal hb2
  have ht3 := keep_cell hb2 ht2
  have c0 : w2.cell? ⟨w.heap.size, 0, none⟩ = some (.int .i64 3) := keep_cell hb2 (by simp)
  have c1 : w2.cell? ⟨w.heap.size, 1, none⟩ = some (.int .i64 f) := keep_cell hb2 (by simp)
  have c2 : w2.cell? ⟨w.heap.size, 2, none⟩ = some (.int .i64 k) := keep_cell hb2 (by simp)
  have hgb := O.base
  clear hov0 hgr0 hown0 hb2 hal ht2 NW
  have P0 := Lib.hid (pour_zero hfl hkl)
  generalize l.getD f 0 = a at *
  generalize l.getD k 0 = b at *
  have PL : ∀ j, (pour l f k a b j).length = l.length := pour_length l f k a b
  have PF : ∀ j, (pour l f k a b j).getD f 0 = a - j := pour_from hfl hfk a b
  have PK : ∀ j, (pour l f k a b j).getD k 0 = b + j := pour_to hkl a b
  have PS : ∀ j, ((pour l f k a b j).set f (a - j - 1)).set k (b + j + 1) = pour l f k a b (j + 1) := pour_succ hfk a b
  have PL' := Lib.hid PL
  have PF' := Lib.hid PF
  have PK' := Lib.hid PK
  have PS' := Lib.hid PS
  clear PL PF PK PS
  go_wp2
  go_loopw [51] (fun _ wr => ∃ j : Int, 0 ≤ j ∧ j ≤ a ∧ j ≤ x - b ∧ Own (w.heap.size + 1) wr g cap (pour l f k a b j) ∧ Below (w.heap.size + 1) w2 wr) (fun _ wr => cellN wr ⟨g, f, none⟩)
  case atStart => exact ⟨0, by omega, by omega, by omega, by rw [P0.out]; exact O, Below.refl _ _⟩
  case round =>
    obtain ⟨j, hj0, hj1, hj2, OJ, hbel⟩ := hrel
    have k1 := OJ.cell f (by rw [PL'.out]; exact hfl)
    have k2 := OJ.cell k (by rw [PL'.out]; exact hkl)
    have f1 := OJ.frozen f
    have f2 := (OJ.set f (a - j - 1)).frozen k
    have k3 := (OJ.set f (a - j - 1)).cell k (by rw [List.length_set, PL'.out]; exact hkl)
    rw [show ((pour l f k a b j).set f (a - j - 1)).getD k 0 = (pour l f k a b j).getD k 0 by simp [List.getD_eq_getElem?_getD, hfk]] at k3
    rw [PF'.out] at k1
    rw [PK'.out] at k2 k3
    have d1 : wr.cell? ⟨w.heap.size, 1, none⟩ = some (.int .i64 f) := (hbel.cell (p := ⟨w.heap.size, 1, none⟩) (by simp only; omega)).trans c1
    have d2 : wr.cell? ⟨w.heap.size, 2, none⟩ = some (.int .i64 k) := (hbel.cell (p := ⟨w.heap.size, 2, none⟩) (by simp only; omega)).trans c2
    have t1 : wr.cell? ⟨tb, toff + k, none⟩ = some (.int .i64 x) := (hbel.cell (p := ⟨tb, toff + k, none⟩) (by simp only; omega)).trans ht3
    have OJ' := Lib.hid OJ
    clear OJ O f2 k3
    by_cases h1 : j < a
    · have e1 : decide (j < a) = true := decide_eq_true h1
      by_cases h2 : b + j < x
      · have e2 : decide (b + j < x) = true := decide_eq_true h2
        have hgw : g < wr.heap.size := World.block_lt_of_cell? _ _ k1
        go_wp2
        refine wp_region_quiet_lit (by kernel_rfl) (by kernel_rfl) ?_
        repeat (any_goals (first | go_big_quiet_step (fail) | quiet_step (fail)))
        all_goals (refine wpQuiet_nil ?_; intro _ hw'; obtain ⟨nq, hw''⟩ := hw'; subst hw'')
        have OK1 := OJ'.out.drewN nq
        have OS := (OK1.set f (a - j - 1)).set k (b + j + 1)
        rw [PS'.out] at OS
        have OS' := Lib.hid OS
        have f2 := (OK1.set f (a - j - 1)).frozen k
        have k3 := (OK1.set f (a - j - 1)).cell k (by rw [List.length_set, PL'.out]; exact hkl)
        rw [show ((pour l f k a b j).set f (a - j - 1)).getD k 0 = (pour l f k a b j).getD k 0 by simp [List.getD_eq_getElem?_getD, hfk], PK'.out] at k3
        have CN : Hid (cellN (((wr.drewN nq).setCell ⟨g, f, none⟩ (.int .i64 (a - j - 1))).setCell ⟨g, k, none⟩ (.int .i64 (b + j + 1))) ⟨g, f, none⟩ = (a - (j + 1)).toNat) := Lib.hid (cellN_of (by
          rw [OS.cell f (by rw [PL'.out]; exact hfl), PF'.out]))
        have CO : Hid (cellN wr ⟨g, f, none⟩ = (a - j).toNat) := Lib.hid (cellN_of k1)
        clear OS OK1
        go_wp2
        go_roundw
        case rel => exact ⟨j + 1, by omega, by omega, by omega, OS'.out, ((below_drewN hbel nq).setCell (by simp only; omega) _).setCell (by simp only; omega) _⟩
        case measure => rw [CN.out, CO.out]; omega
      · have e2 : decide (b + j < x) = false := decide_eq_false h2
        have EJ : Hid (j = min a (x - b)) := Lib.hid (by omega)
        go_wp2
        go_quiet (fail)
        all_goals go_wp2
        go_ret
        refine ⟨_, rfl, ?_, below_drewN (hb3.trans (hbel.mono (by omega))) _, fun i hi => by simp [Value.ownBlock] at hi; omega⟩
        rw [← EJ.out]
        exact (OJ'.out.give (PL'.out _) hl4).below (below_drewN (Below.refl _ _) _)
    · have e1 : decide (j < a) = false := decide_eq_false h1
      have EJ : Hid (j = min a (x - b)) := Lib.hid (by omega)
      go_wp2
      go_quiet (fail)
      all_goals go_wp2
      go_ret
      refine ⟨_, rfl, ?_, below_drewN (hb3.trans (hbel.mono (by omega))) _, fun i hi => by simp [Value.ownBlock] at hi; omega⟩
      rw [← EJ.out]
      exact (OJ'.out.give (PL'.out _) hl4).below (below_drewN (Below.refl _ _) _)

end Go.Proofs.Ytikcpfpeoofppaa
