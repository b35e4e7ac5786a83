/- Contracts: deeds one by one (the program). -/
import Derived.Test.YtikcpfpeoofppaaO
namespace Go.Proofs.Ytikcpfpeoofppaa
open Go.RowKit

/-- All that lay lies as it lay, but for the blocks of E. -/
structure Kx (E : Nat → Prop) (w w' : World) : Prop where
  os : w'.os = w.os
  tape : w'.tape = w.tape
  output : w'.output = w.output
  size : w.heap.size ≤ w'.heap.size
  block : ∀ k, k < w.heap.size → ¬ E k → w'.heap[k]? = w.heap[k]?
theorem Kx.refl (E : Nat → Prop) (w : World) : Kx E w w := ⟨rfl, rfl, rfl, Nat.le_refl _, fun _ _ _ => rfl⟩
theorem Kx.of_below {E : Nat → Prop} {w w' : World} (h : Below w.heap.size w w') : Kx E w w' := ⟨h.os, h.tape, h.output, h.size, fun k hk _ => h.block k hk⟩
theorem Kx.trans {E : Nat → Prop} {a b c : World} (h : Kx E a b) (k : Kx E b c) : Kx E a c :=
  ⟨k.os.trans h.os, k.tape.trans h.tape, k.output.trans h.output, Nat.le_trans h.size k.size, fun i hi he => (k.block i (Nat.lt_of_lt_of_le hi h.size) he).trans (h.block i hi he)⟩
theorem Kx.below {E : Nat → Prop} {w w' : World} (h : Kx E w w') {B : Nat} (hB : B ≤ w.heap.size) (hE : ∀ k, E k → B ≤ k) : Below B w w' := ⟨h.os, h.tape, h.output, h.size, fun k hk => h.block k (Nat.lt_of_lt_of_le hk hB) (fun he => absurd (hE k he) (by omega))⟩
theorem Kx.set {E : Nat → Prop} {w w' : World} (h : Kx E w w') {p : Addr} (hp : w.heap.size ≤ p.block) (u : Value) : Kx E w (w'.setCell p u) := by
  have hb : Below w.heap.size w' (w'.setCell p u) := (Below.refl _ _).setCell hp u
  exact ⟨hb.os.trans h.os, hb.tape.trans h.tape, hb.output.trans h.output, Nat.le_trans h.size hb.size, fun k hk he => (hb.block k hk).trans (h.block k hk he)⟩
theorem Kx.alloc {E : Nat → Prop} {w w' : World} (h : Kx E w w') (o : Obj) : Kx E w (w'.alloc o) := h.trans (.of_below ((Below.refl _ _).alloc (Nat.le_refl _) o))
theorem Kx.drew {E : Nat → Prop} {w w' : World} (h : Kx E w w') : Kx E w w'.drew := h.trans (.of_below (Below.refl _ _).drew)

/-- The error of tanks, levels and deeds. -/
def runE (t l : List Int) (ds : List Deed) : Int := if askE t [l] = 0 then (if areD t.length ds then 0 else 2) else askE t [l]
/-- The levels behind deeds. -/
def runV (t l : List Int) (ds : List Deed) : List Int := if runE t l ds = 0 then ds.foldl (doneL t) l else []
/-- The levels behind the first k deeds. -/
def lvK (t l : List Int) (ds : List Deed) (k : Nat) : List Int := (ds.take k).foldl (doneL t) l
theorem lvK_zero (t l : List Int) (ds : List Deed) : lvK t l ds 0 = l := rfl
theorem lvK_full (t l : List Int) (ds : List Deed) : lvK t l ds ds.length = ds.foldl (doneL t) l := by unfold lvK; rw [List.take_length]
theorem lvK_succ (t l : List Int) (ds : List Deed) {k : Nat} (h : k < ds.length) : lvK t l ds (k + 1) = doneL t (lvK t l ds k) (ds.getD k noDeed) := by
  unfold lvK
  rw [List.take_succ_eq_append_getElem h, List.foldl_append, List.getD_eq_getElem?_getD, List.getElem?_eq_getElem h]
  rfl
theorem isD_at {n : Nat} {ds : List Deed} (h : areD n ds = true) {k : Nat} (hk : k < ds.length) : IsD n (ds.getD k noDeed) := by
  refine ((areD_iff _ _).1 h).2 _ ?_
  rw [List.getD_eq_getElem?_getD, List.getElem?_eq_getElem hk]
  exact List.getElem_mem hk
theorem lvK_lev {t l : List Int} {ds : List Deed} (ht : Tvl t) (hl : Lev t l) (hd : areD t.length ds = true) : ∀ k, k ≤ ds.length → Lev t (lvK t l ds k)
  | 0, _ => hl
  | k + 1, hk => by
    rw [lvK_succ t l ds (by omega)]
    exact doneL_lev ht (lvK_lev ht hl hd k (by omega)) (isD_at hd (by omega))
theorem askE_zero {t l : List Int} (h : askE t [l] = 0) : Tvl t ∧ Lev t l := by
  unfold askE at h
  split at h
  · rename_i h1
    refine ⟨(tvl_iff t).1 h1, ?_⟩
    split at h
    · rename_i h2
      simp only [List.all_cons, List.all_nil, Bool.and_true] at h2
      exact (levB_iff _ _).1 h2
    · cases h
  · cases h

theorem ints_one {w : World} {y : Value} {l : List Int} {t : TypeId} (h : IntsAt w y l) : RowsAt (w.alloc (.cells #[y] t)) (.slice (some ⟨w.heap.size, 0, none⟩) 1 1) [l] := by
  refine ⟨some ⟨w.heap.size, 0, none⟩, 1, rfl, by simp, fun _ => ⟨w.heap.size, 0, rfl, fun i hi => ⟨y, ?_, ?_⟩⟩⟩
  · simp at hi
    subst hi
    exact cell_one_new _ _ _ 0 _ rfl
  · simp at hi
    subst hi
    exact h.below ((Below.refl _ _).alloc (Nat.le_refl _) _)

/-- Levels as a box's cells. -/
def padB (l : List Int) : Array Value := #[.int .i64 (l.getD 0 0), .int .i64 (l.getD 1 0), .int .i64 (l.getD 2 0), .int .i64 (l.getD 3 0)]
theorem cellsB {W : World} {B : Nat} {l : List Int} {t : TypeId} (h : W.heap[B]? = some (Obj.cells (padB l) t (0, 0))) :
    W.cell? ⟨B, 0, none⟩ = some (.int .i64 (l.getD 0 0)) ∧ W.cell? ⟨B, 1, none⟩ = some (.int .i64 (l.getD 1 0)) ∧ W.cell? ⟨B, 2, none⟩ = some (.int .i64 (l.getD 2 0)) ∧ W.cell? ⟨B, 3, none⟩ = some (.int .i64 (l.getD 3 0)) := by
  refine ⟨?_, ?_, ?_, ?_⟩ <;> (simp only [World.cell?, h]; rfl)
theorem heap4_set {W : World} {B : Nat} {a b c d : Value} {t : TypeId} {fr : Nat × Nat} (h : W.heap[B]? = some (Obj.cells #[a, b, c, d] t fr)) (x y z u : Value) :
    ((((W.setCell ⟨B, 0, none⟩ x).setCell ⟨B, 1, none⟩ y).setCell ⟨B, 2, none⟩ z).setCell ⟨B, 3, none⟩ u).heap[B]? = some (Obj.cells #[x, y, z, u] t fr) := by
  have := heap_set (k := 3) (heap_set (k := 2) (heap_set (k := 1) (heap_set (k := 0) h x) y) z) u
  simpa using this
theorem Kx.cell {E : Nat → Prop} {a b : World} (h : Kx E a b) {p : Addr} {v : Value} (hp : a.cell? p = some v) (he : ¬ E p.block) : b.cell? p = some v := (World.cell?_of_block (w := a) (h.block p.block (World.block_lt_of_cell? _ _ hp) he)).trans hp

theorem ints_nil (w : World) : IntsAt w (.slice none 0 0) [] := ⟨none, 0, rfl, by simp, fun h => by simp at h⟩

set_option maxRecDepth 100000 in
set_option maxHeartbeats 4000000 in
theorem run_any (E : Nat → Prop) (I : Nat → World → Prop) (gf : Nat) (lb : Array Value) (eg : ∀ args w, (callFunc gf args).run Try.prog w = .ok (.enter gf args) w) (v y x : Value) (t l : List Int) (ds : List Deed) (w0 w : World) (hv : IntsAt w0 v t) (hy : IntsAt w0 y l) (hx : DeedsAt w0 x ds)
    (hb0 : Below w0.heap.size w0 w) (hE : ∀ k, E k → w0.heap.size ≤ k ∧ k < w.heap.size) (hI0 : I 0 w) (hIs : ∀ k W W', I k W → (∀ b, E b → W'.heap[b]? = W.heap[b]?) → I k W')
    (hstep : ∀ k W, k < ds.length → runE t l ds = 0 → Tvl t → Lev t (lvK t l ds k) → Lev t (lvK t l ds (k + 1)) → IsD t.length (ds.getD k noDeed) → I k W → Calls Try.prog gf (#[deedV (ds.getD k noDeed), pad (lvK t l ds k), pad (lvK t l ds (k + 1))] ++ lb) W fun e W' => (∃ u, e = .returned u) ∧ I (k + 1) W' ∧ Kx E W W') :
    Calls Try.prog 74 #[v, y, x, .func (.func gf) #[] lb] w fun e w' => ∃ ov, e = .returned (.tuple #[ov, .int .i64 (runE t l ds)]) ∧ IntsAt w' ov (runV t l ds) ∧ Kx E w w' ∧ (runE t l ds = 0 → I ds.length w') ∧ (runE t l ds ≠ 0 → I 0 w') := by
  have hv1 := hv.below hb0
  have hy1 := hy.below hb0
  have hx1 := hx.below hb0
  obtain ⟨b0, b1, b2, b3⟩ : Below w.heap.size w w ∧ True ∧ True ∧ True := ⟨Below.refl _ _, trivial, trivial, trivial⟩
  clear b1 b2 b3
  have hB1 := (Below.refl w.heap.size w).alloc (Nat.le_refl _) (.cells #[y] 29)
  have A := Lib.hid (asked_any v _ t [l] _ (hv1.below hB1) (ints_one (t := 29) hy1) (by simp))
  have Y := Lib.hid hy1
  have V := Lib.hid hv1
  have X := Lib.hid hx1
  obtain ⟨ya, ycap, rfl, _⟩ := hy1
  obtain ⟨xa, xcap, rfl, hxl, hxc⟩ := hx1
  obtain ⟨va, vcap, rfl, _⟩ := hv1
  have HV0 := Lib.hid hv
  have HX0 := Lib.hid hx
  clear hv hy hx
  have HS := Lib.hid hstep
  clear hstep
  go_enter Try.func74, Try.ntmps74
  go_wp2_with fail
  refine A.out.mono ?_
  rintro e w1 ⟨ov, rfl, hov, hb1⟩
  have hB2 : Below w.heap.size w w1 := hB1.trans (hb1.mono (by simp))
  have V1 := Lib.hid (V.out.below hB2)
  have X1 := Lib.hid (X.out.below hB2)
  by_cases hask : askE t [l] = 0
  · have AZ := askE_zero hask
    have HT := Lib.hid AZ.1
    have HL := Lib.hid AZ.2
    have REx := Lib.hid (show runE t l ds = if areD t.length ds then 0 else 2 by unfold runE; rw [if_pos hask])
    have hov1 := hov hask
    have D := Lib.hid (tAreDeeds_any _ _ t ds w1 V1.out AZ.1.hi X1.out)
    rw [hask]
    clear AZ hov hask A Y V X
    cases hD : areD t.length ds with
    | false =>
      have RE := Lib.hid (show runE t l ds = 2 by rw [REx.out, hD]; rfl)
      have RV := Lib.hid (show runV t l ds = [] by unfold runV; rw [RE.out]; rfl)
      rw [hD] at D
      clear hD REx
      go_wp2_with fail
      refine D.out.mono ?_
      rintro e w2 ⟨rfl, hb2⟩
      have hB3 : Below w.heap.size w w2 := hB2.trans (hb2.mono hB2.size)
      go_wp2
      refine bodyPost_ret (v := .tuple #[.slice none 0 0, .int .i64 2]) (by simp [results, Try.results74, go_sem]) rfl ⟨_, by rw [RE.out], by rw [RV.out]; exact ints_nil _, Kx.of_below hB3, (fun h => by rw [RE.out] at h; cases h), fun _ => hIs 0 w w2 hI0 (fun b hb => hB3.block b (hE b hb).2)⟩
    | true =>
      have RE := Lib.hid (show runE t l ds = 0 by rw [REx.out, hD]; rfl)
      have RV := Lib.hid (show runV t l ds = lvK t l ds ds.length by unfold runV; rw [RE.out, if_pos rfl, lvK_full])
      have HD := Lib.hid hD
      rw [hD] at D
      clear hD REx
      obtain ⟨g, gcap, rfl⟩ := ownsRow_succ hov1
      have hgc : ∀ j, j < 4 → w1.cell? ⟨g, j, none⟩ = (flatP [l])[j]? := fun j hj => hov1.cellAt j (by simpa using hj)
      have g0 := hgc 0 (by omega)
      have g1 := hgc 1 (by omega)
      have g2 := hgc 2 (by omega)
      have g3 := hgc 3 (by omega)
      simp only [flatP, padC, List.flatMap_cons, List.flatMap_nil, List.append_nil, List.getElem?_cons_zero, List.getElem?_cons_succ] at g0 g1 g2 g3
      clear hgc hov1
      go_wp2_with fail
      refine D.out.mono ?_
      rintro e w2 ⟨rfl, hb2⟩
      have hB3 : Below w.heap.size w w2 := hB2.trans (hb2.mono hB2.size)
      have V2 := Lib.hid (V1.out.below hb2)
      have X2 := Lib.hid (X1.out.below hb2)
      have k0 := keep_cell hb2 g0
      have k1 := keep_cell hb2 g1
      have k2 := keep_cell hb2 g2
      have k3 := keep_cell hb2 g3
      have hs3 := hB3.size
      have hbox := World.alloc_heap_new w2 (.cells #[.int .i64 (l.getD 0 0), .int .i64 (l.getD 1 0), .int .i64 (l.getD 2 0), .int .i64 (l.getD 3 0)] 66)
      have hI1 : I 0 (w2.alloc (.cells #[.int .i64 (l.getD 0 0), .int .i64 (l.getD 1 0), .int .i64 (l.getD 2 0), .int .i64 (l.getD 3 0)] 66)) := hIs 0 w _ hI0 (fun b hb => (Below.heap_alloc _ _ _ (Nat.lt_of_lt_of_le (hE b hb).2 hs3)).trans (hB3.block b (hE b hb).2))
      have hK1 : Kx E w (w2.alloc (.cells #[.int .i64 (l.getD 0 0), .int .i64 (l.getD 1 0), .int .i64 (l.getD 2 0), .int .i64 (l.getD 3 0)] 66)) := (Kx.of_below hB3).alloc _
      have HB := Lib.hid (show ∃ m : Nat, ds.length = m from ⟨_, rfl⟩)
      clear g0 g1 g2 g3 D V1 X1
      have hbox' : (w2.alloc (.cells #[.int .i64 (l.getD 0 0), .int .i64 (l.getD 1 0), .int .i64 (l.getD 2 0), .int .i64 (l.getD 3 0)] 66)).heap[w2.heap.size]? = some (Obj.cells (padB (lvK t l ds 0)) 66 (0, 0)) := hbox
      clear hbox
      generalize l.getD 0 0 = p0 at *
      generalize l.getD 1 0 = p1 at *
      generalize l.getD 2 0 = p2 at *
      generalize l.getD 3 0 = p3 at *
      go_wp2
      go_loopw [37] (fun i wr => ∃ k : Nat, k ≤ ds.length ∧ i = .int .i64 k ∧ I k wr ∧ Kx E w wr ∧ wr.heap[w2.heap.size]? = some (Obj.cells (padB (lvK t l ds k)) 66 (0, 0)) ∧ w2.heap.size < wr.heap.size) (fun i _ => ds.length - (intOf i).toNat)
      case atStart => exact ⟨0, Nat.zero_le _, rfl, hI1, hK1, hbox', by simp⟩
      case round =>
        obtain ⟨k, hk, rfl, hI, hK, hbx, hsz⟩ := hrel
        by_cases hlt : k < ds.length
        · have hw : Below w0.heap.size w0 wr := hb0.trans (hK.below hb0.size (fun k h => (hE k h).1))
          have hEw : ∀ b, w.heap.size ≤ b → ¬ E b := fun b hb he => absurd (hE b he).2 (by omega)
          have hv3 := HV0.out.below hw
          obtain ⟨a', c', he, _, hq⟩ := HX0.out.below hw
          simp only [Value.slice.injEq] at he
          obtain ⟨rfl, -, rfl⟩ := he
          obtain ⟨b, off, rfl, hc⟩ := hq (by omega)
          obtain ⟨z1, z2, z3⟩ := hc k hlt
          have hl0 := lvK_lev HT.out HL.out HD.out k hk
          have hl1 := lvK_lev HT.out HL.out HD.out (k + 1) hlt
          have hd := isD_at HD.out hlt
          have HSk := Lib.hid (fun W hIW => HS.out k W hlt RE.out HT.out hl0 hl1 hd hIW)
          have hb5 : Below wr.heap.size wr (wr.alloc (.cells #[.int .i64 (ds.getD k noDeed).1, .int .i64 (ds.getD k noDeed).2.1, .int .i64 (ds.getD k noDeed).2.2] 43)) := (Below.refl _ _).alloc (Nat.le_refl _) _
          have DC := Lib.hid (tDoes_any _ t (lvK t l ds k) (ds.getD k noDeed) _ (hv3.below hb5) HT.out hl0 hd)
          rw [← lvK_succ t l ds hlt] at DC
          obtain ⟨c0, c1, c2, c3⟩ := cellsB hbx
          have PB := Lib.hid (show padB (lvK t l ds (k + 1)) = #[.int .i64 ((lvK t l ds (k + 1)).getD 0 0), .int .i64 ((lvK t l ds (k + 1)).getD 1 0), .int .i64 ((lvK t l ds (k + 1)).getD 2 0), .int .i64 ((lvK t l ds (k + 1)).getD 3 0)] from rfl)
          unfold padB at hbx
          unfold pad levV deedV at HSk DC
          have hw2 := World.block_lt_of_cell? _ _ c0
          clear hl0 hl1 hd hc hq hv3 hbox' hI1 hK1 k0 k1 k2 k3
          generalize ds.getD k noDeed = d at *
          obtain ⟨d1, d2, d3⟩ := d
          simp only at z1 z2 z3 HSk DC hb5
          generalize (lvK t l ds k).getD 0 0 = p0 at *
          generalize (lvK t l ds k).getD 1 0 = p1 at *
          generalize (lvK t l ds k).getD 2 0 = p2 at *
          generalize (lvK t l ds k).getD 3 0 = p3 at *
          generalize (lvK t l ds (k + 1)).getD 0 0 = q0 at *
          generalize (lvK t l ds (k + 1)).getD 1 0 = q1 at *
          generalize (lvK t l ds (k + 1)).getD 2 0 = q2 at *
          generalize (lvK t l ds (k + 1)).getD 3 0 = q3 at *
          go_wp2_with fail
          refine DC.out.mono ?_
          rintro e w3 ⟨rfl, hb3⟩
          have hb6 : Below wr.heap.size wr w3 := hb5.trans (hb3.mono hb5.size)
          have hal3 : Below w3.heap.size w3 (w3.alloc (.cells #[.int .i64 q0, .int .i64 q1, .int .i64 q2, .int .i64 q3] 66)) := (Below.refl _ _).alloc (Nat.le_refl _) _
          have hb7 : Below wr.heap.size wr (w3.alloc (.cells #[.int .i64 q0, .int .i64 q1, .int .i64 q2, .int .i64 q3] 66)) := hb6.trans (hal3.mono hb6.size)
          have x0 := keep_cell hal3 (keep_cell hb3 (show (wr.alloc (.cells #[.int .i64 d1, .int .i64 d2, .int .i64 d3] 43)).cell? ⟨wr.heap.size, 0, none⟩ = some (.int .i64 d1) by simp))
          have x1 := keep_cell hal3 (keep_cell hb3 (show (wr.alloc (.cells #[.int .i64 d1, .int .i64 d2, .int .i64 d3] 43)).cell? ⟨wr.heap.size, 1, none⟩ = some (.int .i64 d2) by simp))
          have x2 := keep_cell hal3 (keep_cell hb3 (show (wr.alloc (.cells #[.int .i64 d1, .int .i64 d2, .int .i64 d3] 43)).cell? ⟨wr.heap.size, 2, none⟩ = some (.int .i64 d3) by simp))
          have y0 := keep_cell hb7 c0
          have y1 := keep_cell hb7 c1
          have y2 := keep_cell hb7 c2
          have y3 := keep_cell hb7 c3
          have u0 : (w3.alloc (.cells #[.int .i64 q0, .int .i64 q1, .int .i64 q2, .int .i64 q3] 66)).cell? ⟨w3.heap.size, 0, none⟩ = some (.int .i64 q0) := by simp
          have u1 : (w3.alloc (.cells #[.int .i64 q0, .int .i64 q1, .int .i64 q2, .int .i64 q3] 66)).cell? ⟨w3.heap.size, 1, none⟩ = some (.int .i64 q1) := by simp
          have u2 : (w3.alloc (.cells #[.int .i64 q0, .int .i64 q1, .int .i64 q2, .int .i64 q3] 66)).cell? ⟨w3.heap.size, 2, none⟩ = some (.int .i64 q2) := by simp
          have u3 : (w3.alloc (.cells #[.int .i64 q0, .int .i64 q1, .int .i64 q2, .int .i64 q3] 66)).cell? ⟨w3.heap.size, 3, none⟩ = some (.int .i64 q3) := by simp
          have hbx3 := (hb7.block _ hw2).trans hbx
          have hI3 : I k (w3.alloc (.cells #[.int .i64 q0, .int .i64 q1, .int .i64 q2, .int .i64 q3] 66)) := hIs k wr _ hI (fun b hb => hb7.block b (Nat.lt_of_lt_of_le (hE b hb).2 hK.size))
          have h36 := hb6.size
          have hKs := hK.size
          clear c0 c1 c2 c3 z1 z2 z3 hbx hal3
          go_wp2_with fail
          refine (HSk.out _ hI3).mono ?_
          rintro e w4 ⟨⟨u, rfl⟩, hI4, hK4⟩
          have nb : ∀ b, w2.heap.size ≤ b → ¬ E b := fun b hb => hEw b (Nat.le_trans hs3 hb)
          have hw22 : w2.heap.size ≤ w3.heap.size := by omega
          have a0 := hK4.cell y0 (nb _ (Nat.le_refl _))
          have a1 := hK4.cell y1 (nb _ (Nat.le_refl _))
          have a2 := hK4.cell y2 (nb _ (Nat.le_refl _))
          have a3 := hK4.cell y3 (nb _ (Nat.le_refl _))
          have e0 := hK4.cell u0 (nb _ hw22)
          have e1 := hK4.cell u1 (nb _ hw22)
          have e2 := hK4.cell u2 (nb _ hw22)
          have e3 := hK4.cell u3 (nb _ hw22)
          have hbx4 := (hK4.block _ (World.block_lt_of_cell? _ _ y0) (nb _ (Nat.le_refl _))).trans hbx3
          have f0 := frozenA hbx4 0
          have f1 := frozenA hbx4 1
          have f2 := frozenA hbx4 2
          have f3 := frozenA hbx4 3
          have hK5 : Kx E w w4 := (hK.trans (Kx.of_below hb7)).trans hK4
          have hz4 : wr.heap.size ≤ w4.heap.size := Nat.le_trans hb7.size hK4.size
          have hI5 : ∀ a b c d : Value, I (k + 1) ((((w4.setCell ⟨w2.heap.size, 0, none⟩ a).setCell ⟨w2.heap.size, 1, none⟩ b).setCell ⟨w2.heap.size, 2, none⟩ c).setCell ⟨w2.heap.size, 3, none⟩ d) := fun a b c d => hIs _ w4 _ hI4 (fun i hi => (below_stored (Below.refl (w2.heap.size) w4) (Nat.le_refl _) _ _ _ _).block i (Nat.lt_of_lt_of_le (hE i hi).2 hs3))
          have HI5 := Lib.hid hI5
          clear x0 x1 x2 y0 y1 y2 y3 u0 u1 u2 u3 hbx3 hI3 hI4 hI5 HSk DC
          go_wp2
          go_roundw
          case rel => exact ⟨k + 1, by omega, by go_num, HI5.out _ _ _ _, (((hK5.set hs3 _).set hs3 _).set hs3 _).set hs3 _, by rw [PB.out]; exact heap4_set hbx4 _ _ _ _, by simp; omega⟩
          case measure => simp [intOf]; omega
        · obtain rfl : k = ds.length := by omega
          have hw : Below w0.heap.size w0 wr := hb0.trans (hK.below hb0.size (fun k h => (hE k h).1))
          have hv3 := HV0.out.below hw
          have hlL := lvK_lev HT.out HL.out HD.out ds.length (Nat.le_refl _)
          have LC := Lib.hid (list_any _ t (lvK t l ds ds.length) wr hv3 HT.out.lo HT.out.hi hlL.1)
          obtain ⟨c0, c1, c2, c3⟩ := cellsB hbx
          unfold pad levV at LC
          clear hlL hv3 hbx
          generalize (lvK t l ds ds.length).getD 0 0 = q0 at *
          generalize (lvK t l ds ds.length).getD 1 0 = q1 at *
          generalize (lvK t l ds ds.length).getD 2 0 = q2 at *
          generalize (lvK t l ds ds.length).getD 3 0 = q3 at *
          go_wp2_with fail
          refine LC.out.mono ?_
          rintro e w4 ⟨lv, rfl, hlv, hb8, _⟩
          have HLV := Lib.hid hlv
          have hK6 : Kx E w w4 := hK.trans (Kx.of_below hb8)
          have hI6 : I ds.length w4 := hIs _ wr _ hI (fun i hi => hb8.block i (Nat.lt_of_lt_of_le (hE i hi).2 hK.size))
          clear hlv LC
          go_wp2
          refine bodyPost_ret (v := .tuple #[lv, .int .i64 0]) (by simp [results, Try.results74, go_sem]) rfl ⟨_, by rw [RE.out], by rw [RV.out]; exact HLV.out, hK6, fun _ => hI6, fun h => absurd RE.out h⟩
  · have RE := Lib.hid (show runE t l ds = askE t [l] by unfold runE; rw [if_neg hask])
    have RV := Lib.hid (show runV t l ds = [] by unfold runV; rw [RE.out, if_neg hask])
    clear A hov
    generalize askE t [l] = ae at *
    go_wp2
    refine bodyPost_ret (v := .tuple #[.slice none 0 0, .int .i64 ae]) (by simp [results, Try.results74, go_sem]) rfl ⟨_, by rw [RE.out], by rw [RV.out]; exact ints_nil _, Kx.of_below hB2, fun h => absurd (RE.out.symm.trans h) hask, fun _ => hIs 0 w w1 hI0 (fun b hb => hB2.block b (hE b hb).2)⟩

end Go.Proofs.Ytikcpfpeoofppaa
