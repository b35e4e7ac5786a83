/- Contracts: the search (the program). -/
import Derived.Test.YtikcpfpeoofppaaSs
import Derived.Test.YtikcpfpeoofppaaJq
import Derived.Deep.RegionHeld3
import Derived.Deep.AppendLies
namespace Go.Proofs.Ytikcpfpeoofppaa
open Go.RowKit Go.Shelf

attribute [local go_sem] Oper.semAt_some



/-- The frame in the loop. -/
def nsFrame (tv fv : Value) (p0 p1 p2 p3 : Int) (n0 Bv Bs M g1 : Nat) (x15 x16 x19 x20 x21 x22 : Value) (i : Nat) (ms : List Nat) (u : Nat → Value) : Act :=
  { tmps := #[tv, .agg #[.int .i64 p0, .int .i64 p1, .int .i64 p2, .int .i64 p3], fv, .pointer (some ⟨n0, 0, none⟩), .pointer (some ⟨n0 + 1, 0, none⟩), undef, .pointer none, .bool false, .pointer (some ⟨Bv, 0, none⟩), .int .i64 i, (u 10), (u 11), (u 12), (u 13), (u 14), x15, x16, .slice (some ⟨g1, 0, none⟩) 1 1, .map (some M), x19, x20, x21, x22, .pointer (some ⟨Bs, 0, none⟩), (u 24), (u 25), (u 26), (u 27), (u 28), (u 29), (u 30), (u 31), (u 32), (u 33), (u 34), (u 35), (u 36), (u 37), (u 38), (u 39), (u 40), (u 41), (u 42), (u 43), (u 44), (u 45), (u 46), (u 47), (u 48), (u 49), (u 50), (u 51), (u 52), (u 53), (u 54), (u 55), (u 56), (u 57), (u 58), (u 59), (u 60), (u 61), (u 62), (u 63), (u 64), (u 65), (u 66), (u 67), (u 68), (u 69), (u 70), (u 71), (u 72), (u 73), (u 74), (u 75), (u 76), (u 77), (u 78), (u 79), (u 80), (u 81), (u 82), (u 83), (u 84), (u 85), (u 86), (u 87), (u 88), (u 89), (u 90)], defers := ms.map markOf }
theorem nsFrame_ex {a' : Act} {tv fv : Value} {p0 p1 p2 p3 : Int} {n0 Bv Bs M g1 : Nat} {x15 x16 x19 x20 x21 x22 : Value} {i : Nat} {ms : List Nat}
    (h : a' = nsFrame tv fv p0 p1 p2 p3 n0 Bv Bs M g1 x15 x16 x19 x20 x21 x22 i ms (fun k => a'.tmps.getD k undef)) : ∃ u, a' = nsFrame tv fv p0 p1 p2 p3 n0 Bv Bs M g1 x15 x16 x19 x20 x21 x22 i ms u := ⟨_, h⟩
/-- The frame in a round over the deeds. -/
def nsBody (n0 Bv Bn p : Nat) (u : Nat → Value) : Act :=
  { tmps := #[(u 0), (u 1), (u 2), .pointer (some ⟨n0, 0, none⟩), (u 4), (u 5), (u 6), (u 7), .pointer (some ⟨Bv, 0, none⟩), (u 9), .pointer (some ⟨Bn, 0, none⟩), .pointer (some ⟨p, 0, none⟩), (u 12), (u 13), (u 14), (u 15), (u 16), (u 17), (u 18), (u 19), (u 20), (u 21), (u 22), (u 23), (u 24), (u 25), (u 26), (u 27), (u 28), (u 29), (u 30), (u 31), (u 32), (u 33), (u 34), (u 35), (u 36), (u 37), (u 38), (u 39), (u 40), (u 41), (u 42), (u 43), (u 44), (u 45), (u 46), (u 47), (u 48), (u 49), (u 50), (u 51), (u 52), (u 53), (u 54), (u 55), (u 56), (u 57), (u 58), (u 59), (u 60), (u 61), (u 62), (u 63), (u 64), (u 65), (u 66), (u 67), (u 68), (u 69), (u 70), (u 71), (u 72), (u 73), (u 74), (u 75), (u 76), (u 77), (u 78), (u 79), (u 80), (u 81), (u 82), (u 83), (u 84), (u 85), (u 86), (u 87), (u 88), (u 89), (u 90)], defers := [] }
theorem nsBody_ex {a' : Act} {n0 Bv Bn p : Nat} (h : a' = nsBody n0 Bv Bn p (fun k => a'.tmps.getD k undef)) : ∃ u, a' = nsBody n0 Bv Bn p u := ⟨_, h⟩
theorem nsFrame_i (tv fv : Value) (p0 p1 p2 p3 : Int) (n0 Bv Bs M g1 : Nat) (x15 x16 x19 x20 x21 x22 : Value) (i : Nat) (ms : List Nat) (u : Nat → Value) :
    (nsFrame tv fv p0 p1 p2 p3 n0 Bv Bs M g1 x15 x16 x19 x20 x21 x22 i ms u).tmps.getD 9 undef = .int .i64 i := rfl

set_option maxRecDepth 100000 in
set_option maxHeartbeats 40000000 in
theorem newSearch_in (g : List Int → Bool) (gf : Nat) (lb : Array Value) (eg : ∀ args w, (callFunc gf args).run Try.prog w = .ok (.enter gf args) w) (v : Value) (t l : List Int) (w : World) (hv : IntsAt w v t) (ht : Tvl t) (hl : Lev t l)
    (hgoal : ∀ W l', Below w.heap.size w W → Lev t l' → Calls Try.prog gf (#[pad l'] ++ lb) W fun e W' => e = .returned (.bool (g l')) ∧ Below W.heap.size W W') :
    CallsIn Fence.wide 4 Try.prog 60 #[v, pad l, .func (.func gf) #[] lb] w (NewS v t l g w) := by
  have HV := Lib.hid hv
  obtain ⟨a, cap, rfl, hvl, hvc⟩ := hv
  have K0 := Lib.hid (keyOf_pad ht hl)
  unfold pad levV at K0 ⊢
  generalize hp0 : l.getD 0 0 = p0 at *
  generalize hp1 : l.getD 1 0 = p1 at *
  generalize hp2 : l.getD 2 0 = p2 at *
  generalize hp3 : l.getD 3 0 = p3 at *
  have hmm := @run_makeMap Try.prog
  have hput0 : ∀ (W : World) (M : Nat) (val : Value), M = W.heap.size → (Instr.mapUpdate 96 (.map (some M)) (.agg #[.int .i64 p0, .int .i64 p1, .int .i64 p2, .int .i64 p3]) val).run Try.prog (W.alloc (.map #[] 0)).drew = .ok () ((W.alloc (.map #[] 0)).drew.putObj M (.map #[⟨(.agg #[.int .i64 p0, .int .i64 p1, .int .i64 p2, .int .i64 p3]), val, 0⟩] 1)) := fun W M val h => run_put_empty K0.out (EmptyAt.new W M h)
  have hput1 : ∀ (W : World) (o1 : Obj) (M : Nat) (val : Value), M = W.heap.size → (Instr.mapUpdate 96 (.map (some M)) (.agg #[.int .i64 p0, .int .i64 p1, .int .i64 p2, .int .i64 p3]) val).run Try.prog ((W.alloc (.map #[] 0)).alloc o1).drew = .ok () (((W.alloc (.map #[] 0)).alloc o1).drew.putObj M (.map #[⟨(.agg #[.int .i64 p0, .int .i64 p1, .int .i64 p2, .int .i64 p3]), val, 0⟩] 1)) := fun W o1 M val h => run_put_empty K0.out (EmptyAt.old _ _ _ (by subst h; simp; try omega) (EmptyAt.new W M h))
  have hput2 : ∀ (W : World) (o1 o2 : Obj) (M : Nat) (val : Value), M = W.heap.size → (Instr.mapUpdate 96 (.map (some M)) (.agg #[.int .i64 p0, .int .i64 p1, .int .i64 p2, .int .i64 p3]) val).run Try.prog (((W.alloc (.map #[] 0)).alloc o1).alloc o2).drew = .ok () ((((W.alloc (.map #[] 0)).alloc o1).alloc o2).drew.putObj M (.map #[⟨(.agg #[.int .i64 p0, .int .i64 p1, .int .i64 p2, .int .i64 p3]), val, 0⟩] 1)) := fun W o1 o2 M val h => run_put_empty K0.out (EmptyAt.old _ _ _ (by subst h; simp; try omega) (EmptyAt.old _ _ _ (by subst h; simp; try omega) (EmptyAt.new W M h)))
  have hput3 : ∀ (W : World) (o1 o2 o3 : Obj) (M : Nat) (val : Value), M = W.heap.size → (Instr.mapUpdate 96 (.map (some M)) (.agg #[.int .i64 p0, .int .i64 p1, .int .i64 p2, .int .i64 p3]) val).run Try.prog ((((W.alloc (.map #[] 0)).alloc o1).alloc o2).alloc o3).drew = .ok () (((((W.alloc (.map #[] 0)).alloc o1).alloc o2).alloc o3).drew.putObj M (.map #[⟨(.agg #[.int .i64 p0, .int .i64 p1, .int .i64 p2, .int .i64 p3]), val, 0⟩] 1)) := fun W o1 o2 o3 M val h => run_put_empty K0.out (EmptyAt.old _ _ _ (by subst h; simp; try omega) (EmptyAt.old _ _ _ (by subst h; simp; try omega) (EmptyAt.old _ _ _ (by subst h; simp; try omega) (EmptyAt.new W M h))))
  have HG := Lib.hid hgoal
  have HP := Lib.hid (And.intro hp0 (And.intro hp1 (And.intro hp2 hp3)))
  have HT := Lib.hid ht
  have HL := Lib.hid hl
  clear hgoal hp0 hp1 hp2 hp3
  refine callsIn_of_wp_marks Try.func60 rfl trivial ?_ rfl
  simp only [Try.ntmps60, List.size_toArray, List.length_cons, List.length_nil, Nat.reduceAdd, Nat.reduceSub, Array.replicate_succ, Array.replicate_zero, List.push_toArray, List.append_toArray, List.nil_append, List.cons_append]
  gi_wp2
  obtain ⟨w2, hw2⟩ : ∃ w2, w2 = (w.alloc (.cells #[.slice a t.length cap] 29)).alloc (.cells #[.int .i64 p0, .int .i64 p1, .int .i64 p2, .int .i64 p3] 66) := ⟨_, rfl⟩
  rw [← hw2]
  have hz2 : w2.heap.size = w.heap.size + 2 := by rw [hw2]; simp
  have hB2 : Below w.heap.size w w2 := by rw [hw2]; exact ((Below.refl _ w).alloc (Nat.le_refl _) _).alloc (by simp) _
  have c0 : w2.cell? ⟨w.heap.size, 0, none⟩ = some (.slice a t.length cap) := by rw [hw2]; simp
  have q0 : w2.cell? ⟨w.heap.size + 1, 0, none⟩ = some (.int .i64 p0) := by rw [hw2]; simp
  have q1 : w2.cell? ⟨w.heap.size + 1, 1, none⟩ = some (.int .i64 p1) := by rw [hw2]; simp
  have q2 : w2.cell? ⟨w.heap.size + 1, 2, none⟩ = some (.int .i64 p2) := by rw [hw2]; simp
  have q3 : w2.cell? ⟨w.heap.size + 1, 3, none⟩ = some (.int .i64 p3) := by rw [hw2]; simp
  have s0 : ∀ W, KB w2 W → W.cell? ⟨w.heap.size, 0, none⟩ = some (.slice a t.length cap) := fun W h => keep_cell h c0
  have s1 : ∀ W, KB w2 W → W.cell? ⟨w.heap.size + 1, 0, none⟩ = some (.int .i64 p0) := fun W h => keep_cell h q0
  have s2 : ∀ W, KB w2 W → W.cell? ⟨w.heap.size + 1, 1, none⟩ = some (.int .i64 p1) := fun W h => keep_cell h q1
  have s3 : ∀ W, KB w2 W → W.cell? ⟨w.heap.size + 1, 2, none⟩ = some (.int .i64 p2) := fun W h => keep_cell h q2
  have s4 : ∀ W, KB w2 W → W.cell? ⟨w.heap.size + 1, 3, none⟩ = some (.int .i64 p3) := fun W h => keep_cell h q3
  have hcp : ∀ (W : World) (M : Nat) (o : Obj) (a : Addr), ¬ M = a.block → (W.putObj M o).cell? a = W.cell? a := fun W M o a h => cell_putObj h
  have hfp : ∀ (W : World) (M : Nat) (o : Obj) (a : Addr), ¬ M = a.block → (W.putObj M o).frozen? a = W.frozen? a := fun W M o a h => frozen_putObj h
  clear hw2 c0 q0 q1 q2 q3
  refine wpIn_wide.2 ?_
  refine Code.wp_mono (Q := fun e a' W => e = .normal ∧ ∃ Bv Bs M g x15 x16 x19 x20 x21 x22, a' = { tmps := #[.slice a t.length cap, .agg #[.int .i64 p0, .int .i64 p1, .int .i64 p2, .int .i64 p3], .func (.func gf) #[] lb, .pointer (some ⟨w.heap.size, 0, none⟩), .pointer (some ⟨w.heap.size + 1, 0, none⟩), undef, .pointer none, .bool false, .pointer (some ⟨Bv, 0, none⟩), undef, undef, undef, undef, undef, undef, x15, x16, .slice (some ⟨g, 0, none⟩) 1 1, .map (some M), x19, x20, x21, x22, .pointer (some ⟨Bs, 0, none⟩), undef, undef, undef, undef, undef, undef, undef, undef, undef, undef, undef, undef, undef, undef, undef, undef, undef, undef, undef, undef, undef, undef, undef, undef, undef, undef, undef, undef, undef, undef, undef, undef, undef, undef, undef, undef, undef, undef, undef, undef, undef, undef, undef, undef, undef, undef, undef, undef, undef, undef, undef, undef, undef, undef, undef, undef, undef, undef, undef, undef, undef, undef, undef, undef, undef, undef, undef], defers := [] } ∧
    Srch w2.heap.size (.slice a t.length cap) Bv Bs M [(l, [], [])] (.slice (some ⟨g, 0, none⟩) 1 1) W ∧ Below w2.heap.size w2 W) ?next1 ?reg1
  case reg1 =>
    go_region_held3 (fun W => KB w2 W) (first | exact Below.drew (Below.refl _ _) | (unfold KB; repeat (first | assumption | exact Below.refl _ _ | refine Below.setCell ?_ (by first | omega | (simp; done) | (simp; omega)) _ | refine Below.drew ?_ | refine Below.alloc ?_ (by first | omega | (simp; done) | (simp; omega)) _ | refine below_put ?_ (by first | omega | (simp; done) | (simp; omega)) (by first | (simp; done) | (simp; omega))))) (fail)
    all_goals (
      refine ⟨rfl, _, _, _, _, _, _, _, _, _, _, rfl, Srch.start HT.out HL.out HP.out.1 HP.out.2.1 HP.out.2.2.1 HP.out.2.2.2 ?_ ?_ ?_ ?_ (by omega) (by omega) (by omega) (by omega), ?_⟩
      · repeat (first | (with_reducible refine (heap_alloc_lt ?hs).trans ?_; case hs => (try simp only [World.size_alloc, World.putObj_size, World.size_drew, World.size_setCell]); omega) | (with_reducible refine heap_alloc_at ?hs; case hs => (try simp only [World.size_alloc, World.putObj_size, World.size_drew, World.size_setCell]); omega) | (with_reducible refine (World.putObj_heap_other ?hs).trans ?_; case hs => omega) | (with_reducible refine World.putObj_heap_same ?hs; case hs => (try simp only [World.size_alloc, World.putObj_size, World.size_drew, World.size_setCell]); omega) | (with_reducible refine (Below.heap_setCell _ _ _ _ ?hs).trans ?_; case hs => (try simp only); omega) | (with_reducible apply heap_box_set) | rw [heap_drew])
      · repeat (first | (with_reducible refine (heap_alloc_lt ?hs).trans ?_; case hs => (try simp only [World.size_alloc, World.putObj_size, World.size_drew, World.size_setCell]); omega) | (with_reducible refine heap_alloc_at ?hs; case hs => (try simp only [World.size_alloc, World.putObj_size, World.size_drew, World.size_setCell]); omega) | (with_reducible refine (World.putObj_heap_other ?hs).trans ?_; case hs => omega) | (with_reducible refine World.putObj_heap_same ?hs; case hs => (try simp only [World.size_alloc, World.putObj_size, World.size_drew, World.size_setCell]); omega) | (with_reducible refine (Below.heap_setCell _ _ _ _ ?hs).trans ?_; case hs => (try simp only); omega) | (with_reducible apply heap_box_set) | rw [heap_drew])
      · repeat (first | (with_reducible refine (heap_alloc_lt ?hs).trans ?_; case hs => (try simp only [World.size_alloc, World.putObj_size, World.size_drew, World.size_setCell]); omega) | (with_reducible refine heap_alloc_at ?hs; case hs => (try simp only [World.size_alloc, World.putObj_size, World.size_drew, World.size_setCell]); omega) | (with_reducible refine (World.putObj_heap_other ?hs).trans ?_; case hs => omega) | (with_reducible refine World.putObj_heap_same ?hs; case hs => (try simp only [World.size_alloc, World.putObj_size, World.size_drew, World.size_setCell]); omega) | (with_reducible refine (Below.heap_setCell _ _ _ _ ?hs).trans ?_; case hs => (try simp only); omega) | (with_reducible apply heap_box_set) | rw [heap_drew])
      · repeat (first | (with_reducible refine (heap_alloc_lt ?hs).trans ?_; case hs => (try simp only [World.size_alloc, World.putObj_size, World.size_drew, World.size_setCell]); omega) | (with_reducible refine heap_alloc_at ?hs; case hs => (try simp only [World.size_alloc, World.putObj_size, World.size_drew, World.size_setCell]); omega) | (with_reducible refine (World.putObj_heap_other ?hs).trans ?_; case hs => omega) | (with_reducible refine World.putObj_heap_same ?hs; case hs => (try simp only [World.size_alloc, World.putObj_size, World.size_drew, World.size_setCell]); omega) | (with_reducible refine (Below.heap_setCell _ _ _ _ ?hs).trans ?_; case hs => (try simp only); omega) | (with_reducible apply heap_box_set) | rw [heap_drew])
      · repeat (first | (with_reducible assumption) | (with_reducible exact Below.refl _ _) | (with_reducible refine Below.setCell ?_ ?hs _; case hs => (try simp only); omega) | (with_reducible refine Below.drew ?_) | (with_reducible refine Below.alloc ?_ ?hs _; case hs => (try simp only [World.size_alloc, World.putObj_size, World.size_drew, World.size_setCell]); omega) | (with_reducible refine below_put ?_ ?hs ?hq; (case hs => omega); (case hq => (try simp only [World.size_alloc, World.putObj_size, World.size_drew, World.size_setCell]); omega))))
  clear hmm hput0 hput1 hput2 hput3 hcp hfp s1 s2 s3 s4 hvc hvl
  rintro e a' W1 ⟨rfl, Bv, Bs, M, g1, x15, x16, x19, x20, x21, x22, rfl, hS1, hbW1⟩
  have S1 := Lib.hid hS1
  have HB2 := Lib.hid hB2
  clear hB2
  have BW1 := Lib.hid hbW1
  clear hS1 hbW1
  gi_wp2
  refine wpIn_loop (fun a' W => ∃ (i : Nat) (lv : Value) (ms : List Nat), (i ≤ (full t l).length ∧ Hid (∀ j, j < i → g ((full t l).getD j noE).1 = false) ∧ Srch w2.heap.size (.slice a t.length cap) Bv Bs M (bfs t l i) lv W ∧ MarksAt w2.heap.size ms W ∧ Below w2.heap.size w2 W) ∧
    ∃ u, a' = nsFrame (.slice a t.length cap) (.func (.func gf) #[] lb) p0 p1 p2 p3 w.heap.size Bv Bs M g1 x15 x16 x19 x20 x21 x22 i ms u)
    (fun a' W => sizeR t - (intOf (a'.tmps.getD 9 undef)).toNat) ?start ?round
  case start => exact ⟨0, _, [], ⟨Nat.zero_le _, Lib.hid (fun j hj => by omega), S1.out, MarksAt.nil _ _, BW1.out⟩, nsFrame_ex rfl⟩
  case round =>
    rintro _ W ⟨i, lv, ms, ⟨hi, NH, hS, hms, hbW⟩, u, rfl⟩
    rw [nsFrame_i]
    unfold nsFrame
    have HF := Lib.hid (full_prefix ht hl i)
    by_cases hlt : i < (bfs t l i).length
    · obtain ⟨gr, gcap, nE, y0, y1, y2, y3, x, rfl, HNE, HX, hltE, ca, cb, cc, cd, v0, v1, v2, v3, HGC⟩ := hS.fact g gf lb HT.out HL.out HG.out hlt
      have HS := Lib.hid hS
      have HMS := Lib.hid hms
      have HBW := Lib.hid hbW
      have HI := Lib.hid (And.intro hi hlt)
      clear hS hms hbW hi hlt
      gi_wp2
      have hal : Below W.heap.size W (W.alloc (.cells #[.int .i64 y0, .int .i64 y1, .int .i64 y2, .int .i64 y3] 66)) := (Below.refl _ W).alloc (Nat.le_refl _) _
      refine ⟨trivial, callsIn_wide.2 ((HGC.out _ (HB2.out.trans (((HBW.out.mono (Nat.le_refl _)).trans (hal.mono HBW.out.size)).mono HB2.out.size))).mono ?_)⟩
      have HNB : Hid (¬ Bs = Bv) := Lib.hid (fun e => by have h1 := HS.out.bv; have h2 := HS.out.st; rw [e, h1] at h2; simp at h2)
      cases hgx : g x.1 with
      | true =>
        rintro e W5 ⟨rfl, hb5⟩
        have hB5 : Below W.heap.size W W5 := hal.trans (hb5.mono hal.size)
        have ca5 := keep_cell hB5 ca
        have cc5 := keep_cell hB5 cc
        have cf5 := (HS.out.below hB5).frozen 1
        have HGX := Lib.hid hgx
        have k1 : (0 : Int) ≤ (i : Int) + 1 := by omega
        have k2 : (i : Int) + 1 ≤ (gcap : Int) := by have := HX.out.2.1; omega
        have k3 : IntKind.i64.wrap ((i : Int) + 1) = (i : Int) + 1 := IntWalk.i64_in _ (by have := HX.out.1; omega)
        have HMS5 := Lib.hid (HMS.out.kept (W' := W5) (fun D hD => hB5.block D (Array.getElem?_eq_some_iff.1 (HMS.out.2 D hD).2).1))
        have HBW5 := Lib.hid (HB2.out.trans ((HBW.out.trans (hB5.mono HBW.out.size)).mono HB2.out.size))
        have HS5 := Lib.hid (HS.out.below hB5)
        have HH5 := Lib.hid (hal.size)
        have hz5 : W.heap.size ≤ W5.heap.size := hB5.size
        clear hgx ca cb cc cd v0 v1 v2 v3 hb5 hal HGC hB5
        gi_wp2
        refine wpIn_wide.2 ?_
        go_region
        all_goals gi_wp2
        all_goals (
          have hcut := HS5.out.cut HT.out HL.out HNE.out hltE
          refine leaves_marks ms _ (HMS5.out.kept (fun D hD => Below.heap_setCell _ _ _ D (fun e => cell_marks HMS5.out cc5 (by rw [← e]; exact hD)))) (fun W7 h1 _ h3 => ⟨_, results_tmp2 rfl _ _ _, ?_⟩)
          refine newS_end (W := (W5.setCell ⟨Bs, 1, none⟩ (.slice (some ⟨gr, 0, none⟩) (i + 1) gcap)).drew) hcut.1 hcut.2.1 hcut.2.2 (by rw [HNE.out]; omega) (.inl ⟨rfl, i, rfl, ?_, ?_, NH.out⟩) (((HBW5.out.setCell (p := ⟨Bs, 1, none⟩) (show w.heap.size ≤ Bs by have := HS5.out.hs; omega) _)).drew) (HMS5.out.kept (fun D hD => Below.heap_setCell _ _ _ D (fun e => cell_marks HMS5.out cc5 (by rw [← e]; exact hD)))) (by omega) h1 h3
          · have h8 := HF.out.length_le
            have h9 := HNE.out
            omega
          · rw [prefix_getD HF.out HI.out.2, ← HX.out.2.2.2.2.1]; exact HGX.out)
      | false =>
        rintro e W5 ⟨rfl, hb5⟩
        have hB5 : Below W.heap.size W W5 := hal.trans (hb5.mono hal.size)
        have HS5 := Lib.hid (HS.out.below hB5)
        have HMS5 := Lib.hid (HMS.out.kept (W' := W5) (fun D hD => hB5.block D (Array.getElem?_eq_some_iff.1 (HMS.out.2 D hD).2).1))
        have HBW5 := Lib.hid (HBW.out.trans (hB5.mono HBW.out.size))
        have c05 := s0 W5 HBW5.out
        have HNW := Lib.hid (show W5.heap[W.heap.size]? = some (.cells (padB x.1) 66 (0, 0)) from (hb5.block _ (by simp)).trans (by
          have := HX.out.2.2.2.2.2
          unfold pad levV at this
          simp only [Value.agg.injEq] at this
          unfold padB
          rw [this]
          exact World.alloc_heap_new W _))
        have hz5 : W.heap.size ≤ W5.heap.size := hB5.size
        have HZ : Hid (W.heap.size < W5.heap.size) := Lib.hid (Nat.lt_of_lt_of_le (by simp) hb5.size)
        have HNO : Hid (∀ k, (Value.slice (some ⟨gr, 0, none⟩) nE gcap).ownBlock = some k → k < W.heap.size) := Lib.hid (fun k hk => (HS.out.row.lt k hk).2)
        have HGX := Lib.hid hgx
        clear hgx ca cb cc cd v0 v1 v2 v3 hb5 hal HGC hB5
        gi_wp2
        refine ⟨trivial, (deeds_in Fence.wide 3 trivial rfl _ _ _ _).mono ?_⟩
        rintro e w' ⟨rfl, rfl⟩
        gi_wp2
        have hal6 : Below W5.heap.size W5 (W5.alloc (.cells #[.slice a t.length cap] 29)) := (Below.refl _ W5).alloc (Nat.le_refl _) _
        have R0 := Lib.hid (show Rnd w2.heap.size (.slice a t.length cap) Bv Bs M W.heap.size (W5.alloc (.cells #[.slice a t.length cap] 29)).heap.size ms w2 x (bfs t l i) (W5.alloc (.cells #[.slice a t.length cap] 29)) from
          ⟨⟨_, HS5.out.below hal6, fun e => by have := HNO.out _ e; omega⟩, (heap_alloc_lt HZ.out).trans HNW.out, HMS5.out.kept (fun D hD => heap_alloc_lt (Array.getElem?_eq_some_iff.1 (HMS5.out.2 D hD).2).1), HBW5.out.trans (hal6.mono HBW5.out.size), Nat.le_refl _⟩)
        have h14 : 1 ≤ 4 := by omega
        refine wpIn_rangeFunc_ownH rfl h14 (gf := 88) (lb := #[.pointer (some ⟨W5.heap.size, 0, none⟩)]) rfl trivial (enters_of Try.func88 (by kernel_rfl) rfl)
          (deeds_stops_q Fence.wide 3 trivial rfl (by omega) W5.heap.size a t.length cap HT.out.hi _ (World.alloc_heap_new W5 _)) Kq.trans (fun W l o o' hl hh hcc hw => Kq.put W l o o' hh hcc) (Below.refl _ _) (fun _ => rfl)
          (fun pre W' => Rnd w2.heap.size (.slice a t.length cap) Bv Bs M W.heap.size (W5.alloc (.cells #[.slice a t.length cap] 29)).heap.size ms w2 x ((pre.map Subtype.val).foldl (stepE t x) (bfs t l i)) W')
          (fun _ _ _ => False)
          (Rnd.own (fun pre : List (DeedOf t.length) => (pre.map Subtype.val).foldl (stepE t x) (bfs t l i)) (by have := HS5.out.mp.lt; simp; omega) (fun D hD => by have := (Array.getElem?_eq_some_iff.1 (HMS5.out.2 D hD).2).1; simp; omega) (by have := HBW5.out.size; simp; omega))
          (fun _ _ _ _ _ hs _ _ => hs)
          R0.out
          (fun d a' W' => ∃ p, VarD (W5.alloc (.cells #[.slice a t.length cap] 29)).heap.size d.1 p W' ∧ ∃ u, a' = nsBody w.heap.size Bv W.heap.size p u)
          (fun x a' s W W' row hs hg hr => by obtain ⟨p, hp, e⟩ := hs; exact ⟨p, VarD.own x.1 p _ () W W' row hp hg hr, e⟩) ?assign ?body ?done ?stop
        case assign =>
          rintro rl pre ⟨⟨x1, x2, x3⟩, hx⟩ W' K hI hK
          simp only [deedV]
          have hal7 : Below W'.heap.size W' (W'.alloc (.cells #[.int .i64 x1, .int .i64 x2, .int .i64 x3] 43)) := (Below.refl _ W').alloc (Nat.le_refl _) _
          have hz7 := hI.size
          have R1 := hI.keep hal7
          have HI7 := Lib.hid hI
          have R7 := Lib.hid R1
          clear hI R1
          gi_wp2
          exact hK _ _ ((KeepsOthers.alloc W' _).from _) (Kq.below hal7) R7.out ⟨W'.heap.size, ⟨hz7, World.alloc_heap_new W' _⟩, nsBody_ex rfl⟩
        case body =>
          rintro rl pre ⟨⟨x1, x2, x3⟩, hxd⟩ a' W' hrl hlo ⟨⟨lv, hS, hne⟩, hnow, hms, hbw, hsz⟩ ⟨p, ⟨hp0, hp⟩, u, rfl⟩ hlt
          simp only at hp
          have c0 := s0 W' hbw
          obtain ⟨n0, n1, n2, n3⟩ := cellsB hnow
          obtain ⟨e0, e1, e2, e3⟩ : x.1.getD 0 0 = y0 ∧ x.1.getD 1 0 = y1 ∧ x.1.getD 2 0 = y2 ∧ x.1.getD 3 0 = y3 := by
            have := HX.out.2.2.2.2.2
            unfold pad levV at this
            simpa using this
          rw [e0] at n0
          rw [e1] at n1
          rw [e2] at n2
          rw [e3] at n3
          have d0 : W'.cell? ⟨p, 0, none⟩ = some (.int .i64 x1) := by simp [World.cell?, hp]
          have d1 : W'.cell? ⟨p, 1, none⟩ = some (.int .i64 x2) := by simp [World.cell?, hp]
          have d2 : W'.cell? ⟨p, 2, none⟩ = some (.int .i64 x3) := by simp [World.cell?, hp]
          have hbw0 : Below w.heap.size w W' := HB2.out.trans (hbw.mono HB2.out.size)
          have DC := Lib.hid (tDoes_any _ t x.1 (x1, x2, x3) W' (HV.out.below hbw0) HT.out HX.out.2.2.1 hxd)
          have NL := Lib.hid (doneL_lev HT.out HX.out.2.2.1 hxd)
          have SE := Lib.hid (show stepE t x ((pre.map Subtype.val).foldl (stepE t x) (bfs t l i)) (x1, x2, x3) = if doneL t x.1 (x1, x2, x3) ∈ ((pre.map Subtype.val).foldl (stepE t x) (bfs t l i)).map (fun e : Ent => e.1) then ((pre.map Subtype.val).foldl (stepE t x) (bfs t l i)) else ((pre.map Subtype.val).foldl (stepE t x) (bfs t l i)) ++ [(doneL t x.1 (x1, x2, x3), x.2.1 ++ [(x1, x2, x3)], x.1)] from rfl)
          have HGd := Lib.hid ((foldE_good HT.out (pre.map Subtype.val) (bfs t l i) (bfs_at HT.out HL.out i).good HX.out.2.2.2.1 (fun d hd => by obtain ⟨d', _, rfl⟩ := List.mem_map.1 hd; exact d'.2) (by have := (bfs_at HT.out HL.out i).top HI.out.2; rwa [← HX.out.2.2.2.2.1] at this)).1)
          have HFold := Lib.hid (show ((pre ++ [(⟨(x1, x2, x3), hxd⟩ : DeedOf t.length)]).map Subtype.val).foldl (stepE t x) (bfs t l i) = stepE t x ((pre.map Subtype.val).foldl (stepE t x) (bfs t l i)) (x1, x2, x3) by simp [List.foldl_append])
          generalize hes : (pre.map Subtype.val).foldl (stepE t x) (bfs t l i) = es at HGd SE HFold hS
          generalize hnx : doneL t x.1 (x1, x2, x3) = nx at DC NL SE
          have hS1 := Lib.hid hS
          have hnow1 := Lib.hid hnow
          have hms1 := Lib.hid hms
          have hbw1 := Lib.hid hbw
          have hne1 := Lib.hid hne
          have hnx1 := Lib.hid hnx
          have hlo1 := Lib.hid hlo
          have hp1 := Lib.hid hp
          clear hes hnow hms hbw hne hnx hlo hp hS e0 e1 e2 e3
          have DC2 : Hid (Calls Try.prog 55 #[.slice a t.length cap, .agg #[.int .i64 y0, .int .i64 y1, .int .i64 y2, .int .i64 y3], .agg #[.int .i64 x1, .int .i64 x2, .int .i64 x3]] W' fun e w' => e = .returned (pad nx) ∧ Below W'.heap.size W' w') := Lib.hid (by rw [← HX.out.2.2.2.2.2]; exact DC.out)
          have hpn : Hid (pad nx = .agg #[.int .i64 (nx.getD 0 0), .int .i64 (nx.getD 1 0), .int .i64 (nx.getD 2 0), .int .i64 (nx.getD 3 0)]) := Lib.hid rfl
          generalize nx.getD 0 0 = z0 at hpn
          generalize nx.getD 1 0 = z1 at hpn
          generalize nx.getD 2 0 = z2 at hpn
          generalize nx.getD 3 0 = z3 at hpn
          rw [hpn.out] at DC2
          clear DC
          unfold nsBody
          gi_wp2
          refine ⟨trivial, CallsIn.inRound rl (callsIn_wide.2 (DC2.out.mono ?_))⟩
          rintro e W7 ⟨rfl, hb7⟩
          clear DC2
          gi_wp2
          obtain ⟨W8, hW8⟩ : ∃ W8, W8 = W7.alloc (.cells #[.int .i64 z0, .int .i64 z1, .int .i64 z2, .int .i64 z3] 66) := ⟨_, rfl⟩
          rw [← hW8]
          have hz8 : W8.heap.size = W7.heap.size + 1 := by rw [hW8]; simp
          have hb8 : Below W'.heap.size W' W8 := by rw [hW8]; exact hb7.alloc hb7.size _
          have q0 : W8.cell? ⟨W7.heap.size, 0, none⟩ = some (.int .i64 z0) := by rw [hW8]; simp
          have q1 : W8.cell? ⟨W7.heap.size, 1, none⟩ = some (.int .i64 z1) := by rw [hW8]; simp
          have q2 : W8.cell? ⟨W7.heap.size, 2, none⟩ = some (.int .i64 z2) := by rw [hW8]; simp
          have q3 : W8.cell? ⟨W7.heap.size, 3, none⟩ = some (.int .i64 z3) := by rw [hW8]; simp
          have HB8 := Lib.hid hb8
          have HS8 := Lib.hid (hS1.out.below hb8)
          have HZ8 := Lib.hid hz8
          have HP8 : Hid ((∀ j, j < W'.heap.size → W8.heap[j]? = W'.heap[j]?) ∧ W'.heap.size ≤ W7.heap.size) := Lib.hid ⟨fun j hj => hb8.block j hj, hb7.size⟩
          have HW8n : Hid (W8.heap[W7.heap.size]? = some (.cells #[.int .i64 z0, .int .i64 z1, .int .i64 z2, .int .i64 z3] 66 (0, 0))) := Lib.hid (by rw [hW8]; exact World.alloc_heap_new W7 _)
          have r0 : ∀ W3, KB W8 W3 → W3.cell? ⟨Bv, 0, none⟩ = some (.pointer (some ⟨Bs, 0, none⟩)) := fun W3 h => kb_cell h HS8.out.cells.1
          have r1 : ∀ W3, KB W8 W3 → W3.cell? ⟨Bs, 2, none⟩ = some (.map (some M)) := fun W3 h => kb_cell h HS8.out.cells.2.2.2
          have r2 : ∀ W3, KB W8 W3 → W3.cell? ⟨W7.heap.size, 0, none⟩ = some (.int .i64 z0) := fun W3 h => kb_cell h q0
          have r3 : ∀ W3, KB W8 W3 → W3.cell? ⟨W7.heap.size, 1, none⟩ = some (.int .i64 z1) := fun W3 h => kb_cell h q1
          have r4 : ∀ W3, KB W8 W3 → W3.cell? ⟨W7.heap.size, 2, none⟩ = some (.int .i64 z2) := fun W3 h => kb_cell h q2
          have r5 : ∀ W3, KB W8 W3 → W3.cell? ⟨W7.heap.size, 3, none⟩ = some (.int .i64 z3) := fun W3 h => kb_cell h q3
          obtain ⟨k0, k1, k2, k3, k4, k5, k6, hcame⟩ := cameV_shape (lastD (lookE es nx)) (lookE es nx).2.2
          have rl' : ∀ W3, KB W8 W3 → (Instr.lookup 96 (.map (some M)) (.agg #[.int .i64 z0, .int .i64 z1, .int .i64 z2, .int .i64 z3]) true).run Try.prog W3 = .ok (.tuple #[.agg #[.int .i64 k0, .int .i64 k1, .int .i64 k2, .int .i64 k3, .int .i64 k4, .int .i64 k5, .int .i64 k6], .bool (decide (nx ∈ es.map (fun e : Ent => e.1)))]) W3 := fun W3 h => by
            rw [← hpn.out, ← hcame]
            exact look_run HT.out HGd.out NL.out (HS8.out.below h).mp
          have HCA := Lib.hid hcame
          generalize hbb : decide (nx ∈ es.map (fun e : Ent => e.1)) = bb at rl'
          have HBB := Lib.hid hbb
          have hHeld : KB W8 W8.drew := Below.drew (Below.refl _ _)
          clear hW8 q0 q1 q2 q3 hb8 hb7 hz8 hcame hbb n0 n1 n2 n3 d0 d1 d2 c0
          refine region_round (fun W3 => KB W8 W3) (by kernel_rfl) (by kernel_rfl) (fun _ _ h => h) ?_
          refine wpAnyH_take (i := 0) (v := .pointer (some ⟨Bs, 0, none⟩)) rfl (by kernel_rfl) (by kernel_rfl) (by kernel_rfl) (fun _ _ _ h => h) (Or.inl ⟨by rfl, fun W3 hS3 => ?take⟩) hHeld ?_
          case take => go_simp
          try simp only [Act.put, List.getElem_toArray, List.getElem_cons_zero, List.getElem_cons_succ, List.setIfInBounds_toArray, List.set_cons_zero, List.set_cons_succ]
          refine wpAnyH_take (i := 1) (v := .pointer (some ⟨Bs, 0, none⟩)) rfl (by kernel_rfl) (by kernel_rfl) (by kernel_rfl) (fun _ _ _ h => h) (Or.inl ⟨by rfl, fun W3 hS3 => ?take⟩) hHeld ?_
          case take => go_simp
          try simp only [Act.put, List.getElem_toArray, List.getElem_cons_zero, List.getElem_cons_succ, List.setIfInBounds_toArray, List.set_cons_zero, List.set_cons_succ]
          refine wpAnyH_take (i := 2) (v := .pointer (some ⟨Bs, 2, none⟩)) rfl (by kernel_rfl) (by kernel_rfl) (by kernel_rfl) (fun _ _ _ h => h) (Or.inl ⟨by rfl, fun W3 hS3 => ?take⟩) hHeld ?_
          case take => go_simp
          try simp only [Act.put, List.getElem_toArray, List.getElem_cons_zero, List.getElem_cons_succ, List.setIfInBounds_toArray, List.set_cons_zero, List.set_cons_succ]
          refine wpAnyH_take (i := 3) (v := .map (some M)) rfl (by kernel_rfl) (by kernel_rfl) (by kernel_rfl) (fun _ _ _ h => h) (Or.inl ⟨by rfl, fun W3 hS3 => ?take⟩) hHeld ?_
          case take => go_simp
          try simp only [Act.put, List.getElem_toArray, List.getElem_cons_zero, List.getElem_cons_succ, List.setIfInBounds_toArray, List.set_cons_zero, List.set_cons_succ]
          refine wpAnyH_take (i := 4) (v := .agg #[.int .i64 z0, .int .i64 z1, .int .i64 z2, .int .i64 z3]) rfl (by kernel_rfl) (by kernel_rfl) (by kernel_rfl) (fun _ _ _ h => h) (Or.inl ⟨by rfl, fun W3 hS3 => ?take⟩) hHeld ?_
          case take => go_simp
          try simp only [Act.put, List.getElem_toArray, List.getElem_cons_zero, List.getElem_cons_succ, List.setIfInBounds_toArray, List.set_cons_zero, List.set_cons_succ]
          refine wpAnyH_take (i := 5) (v := .tuple #[.agg #[.int .i64 k0, .int .i64 k1, .int .i64 k2, .int .i64 k3, .int .i64 k4, .int .i64 k5, .int .i64 k6], .bool bb]) rfl (by kernel_rfl) (by kernel_rfl) (by kernel_rfl) (fun _ _ _ h => h) (Or.inl ⟨by rfl, fun W3 hS3 => ?take⟩) hHeld ?_
          case take => go_simp
          try simp only [Act.put, List.getElem_toArray, List.getElem_cons_zero, List.getElem_cons_succ, List.setIfInBounds_toArray, List.set_cons_zero, List.set_cons_succ]
          refine wpAnyH_take (i := 6) (v := .tuple #[.agg #[.int .i64 k0, .int .i64 k1, .int .i64 k2, .int .i64 k3, .int .i64 k4, .int .i64 k5, .int .i64 k6], .bool bb]) rfl (by kernel_rfl) (by kernel_rfl) (by kernel_rfl) (fun _ _ _ h => h) (Or.inl ⟨by rfl, fun W3 hS3 => ?take⟩) hHeld ?_
          case take => go_simp
          try simp only [Act.put, List.getElem_toArray, List.getElem_cons_zero, List.getElem_cons_succ, List.setIfInBounds_toArray, List.set_cons_zero, List.set_cons_succ]
          refine wpAnyH_take (i := 7) (v := .agg #[.int .i64 k0, .int .i64 k1, .int .i64 k2, .int .i64 k3, .int .i64 k4, .int .i64 k5, .int .i64 k6]) rfl (by kernel_rfl) (by kernel_rfl) (by kernel_rfl) (fun _ _ _ h => h) (Or.inl ⟨by rfl, fun W3 hS3 => ?take⟩) hHeld ?_
          case take => go_simp
          try simp only [Act.put, List.getElem_toArray, List.getElem_cons_zero, List.getElem_cons_succ, List.setIfInBounds_toArray, List.set_cons_zero, List.set_cons_succ]
          refine wpAnyH_take (i := 8) (v := .bool bb) rfl (by kernel_rfl) (by kernel_rfl) (by kernel_rfl) (fun _ _ _ h => h) (Or.inl ⟨by rfl, fun W3 hS3 => ?take⟩) hHeld ?_
          case take => go_simp
          try simp only [Act.put, List.getElem_toArray, List.getElem_cons_zero, List.getElem_cons_succ, List.setIfInBounds_toArray, List.set_cons_zero, List.set_cons_succ]
          refine wpAnyH_ready (rs := [9]) (by kernel_rfl) (by simp) ?_
          refine AllReadyH.cons rfl (fun K hK => ?_) AllReadyH.nil
          go_simp
          refine hK.out _ _ ?keep (fun hHeld => ?_)
          clear hK K
          try simp only [Act.put, List.setIfInBounds_toArray, List.set_cons_zero, List.set_cons_succ]
          case keep => unfold KB; repeat (first | (with_reducible assumption) | (with_reducible exact Below.refl _ _) | (with_reducible refine Below.setCell ?_ ?hs _; case hs => (try simp only); omega) | (with_reducible refine Below.drew ?_) | (with_reducible refine Below.alloc ?_ ?hs _; case hs => (try simp only [World.size_alloc, World.putObj_size, World.size_drew, World.size_setCell]); omega) | (with_reducible refine below_put ?_ ?hs ?hq; (case hs => omega); (case hq => (try simp only [World.size_alloc, World.putObj_size, World.size_drew, World.size_setCell]); omega)))
          refine wpAnyH_ready (rs := [10]) (by kernel_rfl) (by simp) ?_
          refine AllReadyH.cons rfl (fun K hK => ?_) AllReadyH.nil
          go_simp
          refine hK.out _ _ ?keep (fun hHeld => ?_)
          clear hK K
          try simp only [Act.put, List.setIfInBounds_toArray, List.set_cons_zero, List.set_cons_succ]
          case keep => unfold KB; repeat (first | (with_reducible assumption) | (with_reducible exact Below.refl _ _) | (with_reducible refine Below.setCell ?_ ?hs _; case hs => (try simp only); omega) | (with_reducible refine Below.drew ?_) | (with_reducible refine Below.alloc ?_ ?hs _; case hs => (try simp only [World.size_alloc, World.putObj_size, World.size_drew, World.size_setCell]); omega) | (with_reducible refine below_put ?_ ?hs ?hq; (case hs => omega); (case hq => (try simp only [World.size_alloc, World.putObj_size, World.size_drew, World.size_setCell]); omega)))
          refine wpAnyH_take (i := 11) (v := .bool bb) rfl (by kernel_rfl) (by kernel_rfl) (by kernel_rfl) (fun _ _ _ h => h) (Or.inl ⟨by rfl, fun W3 hS3 => ?take⟩) hHeld ?_
          case take => go_simp
          try simp only [Act.put, List.getElem_toArray, List.getElem_cons_zero, List.getElem_cons_succ, List.setIfInBounds_toArray, List.set_cons_zero, List.set_cons_succ]
          refine wpAnyH_done (by kernel_rfl) ?_ _
          simp only [Exit.then]
          clear r0 r1 r2 r3 r4 r5 rl' hHeld
          obtain ⟨W9, hW9⟩ : ∃ W9, W9 = (W8.alloc (.cells #[.int .i64 k0, .int .i64 k1, .int .i64 k2, .int .i64 k3, .int .i64 k4, .int .i64 k5, .int .i64 k6] 103)).drew := ⟨_, rfl⟩
          have hb9 : Below W8.heap.size W8 W9 := by rw [hW9]; exact ((Below.refl _ W8).alloc (Nat.le_refl _) _).drew
          have HB9 := Lib.hid hb9
          have hb9' : Below W'.heap.size W' W9 := HB8.out.trans (hb9.mono HB8.out.size)
          have HB9' := Lib.hid hb9'
          try rw [← hW9]
          clear hW9 hb9 hb9'
          have HR9 : Hid (Rnd w2.heap.size (.slice a t.length cap) Bv Bs M W.heap.size (W5.alloc (.cells #[.slice a t.length cap] 29)).heap.size ms w2 x es W9) := Lib.hid (Rnd.keep ⟨⟨lv, hS1.out, hne1.out⟩, hnow1.out, hms1.out, hbw1.out, hsz⟩ HB9'.out)
          by_cases hin : nx ∈ es.map (fun e : Ent => e.1)
          · have hbt : bb = true := by rw [← HBB.out, decide_eq_true hin]
            have HSE : Hid (stepE t x es (x1, x2, x3) = es) := Lib.hid (by rw [SE.out, if_pos hin])
            rw [hbt]
            clear hbt hin
            gi_wp2
            refine ⟨KeepsFrom.ofBelow HB9'.out, Kq.below HB9'.out, ?_⟩
            have hq9 := HR9.out
            rw [← HSE.out, ← HFold.out] at hq9
            exact hq9
          · have hbt : bb = false := by rw [← HBB.out, decide_eq_false hin]
            have HSE : Hid (stepE t x es (x1, x2, x3) = es ++ [(nx, x.2.1 ++ [(x1, x2, x3)], x.1)]) := Lib.hid (by rw [SE.out, if_neg hin])
            rw [hbt]
            clear hbt hin
            gi_wp2
            obtain ⟨-, hnow9, hms9, hbw9, hsz9⟩ := HR9.out
            have hS9 := hS1.out.below HB9'.out
            obtain ⟨g9, cap9, rfl⟩ := hS9.isS
            have hne9 : g9 ≠ W.heap.size := fun e => hne1.out (by rw [← e]; rfl)
            have HLT9 : Hid (g9 < W7.heap.size ∧ Bs < W7.heap.size) := Lib.hid (by
              have h1 := hS1.out.lt
              have h2 := HP8.out.2
              have h3 := (h1.2.2.2 g9 rfl).2
              omega)
            obtain ⟨e0, e1, e2, e3⟩ : x.1.getD 0 0 = y0 ∧ x.1.getD 1 0 = y1 ∧ x.1.getD 2 0 = y2 ∧ x.1.getD 3 0 = y3 := by
              have := HX.out.2.2.2.2.2
              unfold pad levV at this
              simpa using this
            have hcv : cameV (x1, x2, x3) x.1 = .agg #[.int .i64 x1, .int .i64 x2, .int .i64 x3, .int .i64 y0, .int .i64 y1, .int .i64 y2, .int .i64 y3] := by unfold cameV; rw [e0, e1, e2, e3]
            have hlen : es.length ≤ 28561 := Nat.le_trans (good_len HGd.out) (sizeR_le HT.out)
            have htu : Try.prog.underlying 96 = some (.map 66 103) := by kernel_rfl
            obtain ⟨W10, hrun, hown10, hg10⟩ := (hS9.mp.drew).update Try.keyedLev htu (by unfold maxLen; omega) (keyOf_pad HT.out NL.out) (show asIs (cameV (x1, x2, x3) x.1) = some (.held (cameV (x1, x2, x3) x.1), []) from rfl)
            rw [hpn.out, hcv] at hrun
            obtain ⟨n0, n1, n2, n3⟩ := cellsB hnow9
            rw [e0] at n0
            rw [e1] at n1
            rw [e2] at n2
            rw [e3] at n3
            have hp9 : W9.heap[p]? = some (.cells #[.int .i64 x1, .int .i64 x2, .int .i64 x3] 43 (0, 0)) := (HB9'.out.block p (Array.getElem?_eq_some_iff.1 hp1.out).1).trans hp1.out
            have d0 : W9.cell? ⟨p, 0, none⟩ = some (.int .i64 x1) := by simp [World.cell?, hp9]
            have d1 : W9.cell? ⟨p, 1, none⟩ = some (.int .i64 x2) := by simp [World.cell?, hp9]
            have d2 : W9.cell? ⟨p, 2, none⟩ = some (.int .i64 x3) := by simp [World.cell?, hp9]
            have hw79 : W9.heap[W7.heap.size]? = some (.cells #[.int .i64 z0, .int .i64 z1, .int .i64 z2, .int .i64 z3] 66 (0, 0)) := (HB9.out.block _ (by have := HZ8.out; omega)).trans HW8n.out
            have q0 : W9.cell? ⟨W7.heap.size, 0, none⟩ = some (.int .i64 z0) := by simp [World.cell?, hw79]
            have q1 : W9.cell? ⟨W7.heap.size, 1, none⟩ = some (.int .i64 z1) := by simp [World.cell?, hw79]
            have q2 : W9.cell? ⟨W7.heap.size, 2, none⟩ = some (.int .i64 z2) := by simp [World.cell?, hw79]
            have q3 : W9.cell? ⟨W7.heap.size, 3, none⟩ = some (.int .i64 z3) := by simp [World.cell?, hw79]
            have HS9 := Lib.hid hS9
            have r0 : ∀ W3, KX M W9 W3 → W3.cell? ⟨Bv, 0, none⟩ = some (.pointer (some ⟨Bs, 0, none⟩)) := fun W3 h => kx_cell h HS9.out.mp HS9.out.cells.1
            have r1 : ∀ W3, KX M W9 W3 → W3.cell? ⟨Bs, 2, none⟩ = some (.map (some M)) := fun W3 h => kx_cell h HS9.out.mp HS9.out.cells.2.2.2
            have r2 : ∀ W3, KX M W9 W3 → W3.cell? ⟨W7.heap.size, 0, none⟩ = some (.int .i64 z0) := fun W3 h => kx_cell h HS9.out.mp q0
            have r3 : ∀ W3, KX M W9 W3 → W3.cell? ⟨W7.heap.size, 1, none⟩ = some (.int .i64 z1) := fun W3 h => kx_cell h HS9.out.mp q1
            have r4 : ∀ W3, KX M W9 W3 → W3.cell? ⟨W7.heap.size, 2, none⟩ = some (.int .i64 z2) := fun W3 h => kx_cell h HS9.out.mp q2
            have r5 : ∀ W3, KX M W9 W3 → W3.cell? ⟨W7.heap.size, 3, none⟩ = some (.int .i64 z3) := fun W3 h => kx_cell h HS9.out.mp q3
            have r6 : ∀ W3, KX M W9 W3 → W3.cell? ⟨W.heap.size, 0, none⟩ = some (.int .i64 y0) := fun W3 h => kx_cell h HS9.out.mp n0
            have r7 : ∀ W3, KX M W9 W3 → W3.cell? ⟨W.heap.size, 1, none⟩ = some (.int .i64 y1) := fun W3 h => kx_cell h HS9.out.mp n1
            have r8 : ∀ W3, KX M W9 W3 → W3.cell? ⟨W.heap.size, 2, none⟩ = some (.int .i64 y2) := fun W3 h => kx_cell h HS9.out.mp n2
            have r9 : ∀ W3, KX M W9 W3 → W3.cell? ⟨W.heap.size, 3, none⟩ = some (.int .i64 y3) := fun W3 h => kx_cell h HS9.out.mp n3
            have ra : ∀ W3, KX M W9 W3 → W3.cell? ⟨p, 0, none⟩ = some (.int .i64 x1) := fun W3 h => kx_cell h HS9.out.mp d0
            have rb : ∀ W3, KX M W9 W3 → W3.cell? ⟨p, 1, none⟩ = some (.int .i64 x2) := fun W3 h => kx_cell h HS9.out.mp d1
            have rc : ∀ W3, KX M W9 W3 → W3.cell? ⟨p, 2, none⟩ = some (.int .i64 x3) := fun W3 h => kx_cell h HS9.out.mp d2
            have hHeld : KX M W9 W9.drew := fun _ _ _ => rfl
            have HK10 : Hid (KX M W9 W10) := Lib.hid (fun k h1 h2 => hg10.block k h1 (fun e => h2 (by simpa using e)))
            have HG10 := Lib.hid hg10
            have HO10 := Lib.hid hown10
            have HNE9 := Lib.hid hne9
            have HNW9 := Lib.hid hnow9
            have HMS9 := Lib.hid hms9
            have HBW9 := Lib.hid hbw9
            have HSZ9 := Lib.hid hsz9
            have HW79 := Lib.hid hw79
            clear hS9 hne9 hnow9 hms9 hbw9 hsz9 e0 e1 e2 e3 htu hcv hg10 hown10 hp9 hw79 n0 n1 n2 n3 d0 d1 d2 q0 q1 q2 q3
            refine region_round (fun W3 => KX M W9 W3) (by kernel_rfl) (by kernel_rfl) (fun _ _ h => h) ?_
            refine wpAnyH_take (i := 0) (v := .pointer (some ⟨Bs, 0, none⟩)) rfl (by kernel_rfl) (by kernel_rfl) (by kernel_rfl) (fun _ _ _ h => h) (Or.inl ⟨by rfl, fun W3 hS3 => ?take⟩) hHeld ?_
            case take => go_simp
            try simp only [Act.put, List.getElem_toArray, List.getElem_cons_zero, List.getElem_cons_succ, List.setIfInBounds_toArray, List.set_cons_zero, List.set_cons_succ]
            refine wpAnyH_take (i := 1) (v := .pointer (some ⟨Bs, 0, none⟩)) rfl (by kernel_rfl) (by kernel_rfl) (by kernel_rfl) (fun _ _ _ h => h) (Or.inl ⟨by rfl, fun W3 hS3 => ?take⟩) hHeld ?_
            case take => go_simp
            try simp only [Act.put, List.getElem_toArray, List.getElem_cons_zero, List.getElem_cons_succ, List.setIfInBounds_toArray, List.set_cons_zero, List.set_cons_succ]
            refine wpAnyH_take (i := 2) (v := .pointer (some ⟨Bs, 2, none⟩)) rfl (by kernel_rfl) (by kernel_rfl) (by kernel_rfl) (fun _ _ _ h => h) (Or.inl ⟨by rfl, fun W3 hS3 => ?take⟩) hHeld ?_
            case take => go_simp
            try simp only [Act.put, List.getElem_toArray, List.getElem_cons_zero, List.getElem_cons_succ, List.setIfInBounds_toArray, List.set_cons_zero, List.set_cons_succ]
            refine wpAnyH_take (i := 3) (v := .map (some M)) rfl (by kernel_rfl) (by kernel_rfl) (by kernel_rfl) (fun _ _ _ h => h) (Or.inl ⟨by rfl, fun W3 hS3 => ?take⟩) hHeld ?_
            case take => go_simp
            try simp only [Act.put, List.getElem_toArray, List.getElem_cons_zero, List.getElem_cons_succ, List.setIfInBounds_toArray, List.set_cons_zero, List.set_cons_succ]
            refine wpAnyH_take (i := 4) (v := .agg #[.int .i64 z0, .int .i64 z1, .int .i64 z2, .int .i64 z3]) rfl (by kernel_rfl) (by kernel_rfl) (by kernel_rfl) (fun _ _ _ h => h) (Or.inl ⟨by rfl, fun W3 hS3 => ?take⟩) hHeld ?_
            case take => go_simp
            try simp only [Act.put, List.getElem_toArray, List.getElem_cons_zero, List.getElem_cons_succ, List.setIfInBounds_toArray, List.set_cons_zero, List.set_cons_succ]
            refine wpAnyH_take (i := 5) (v := .agg #[.int .i64 x1, .int .i64 x2, .int .i64 x3]) rfl (by kernel_rfl) (by kernel_rfl) (by kernel_rfl) (fun _ _ _ h => h) (Or.inl ⟨by rfl, fun W3 hS3 => ?take⟩) hHeld ?_
            case take => go_simp
            try simp only [Act.put, List.getElem_toArray, List.getElem_cons_zero, List.getElem_cons_succ, List.setIfInBounds_toArray, List.set_cons_zero, List.set_cons_succ]
            refine wpAnyH_take (i := 6) (v := .agg #[.int .i64 y0, .int .i64 y1, .int .i64 y2, .int .i64 y3]) rfl (by kernel_rfl) (by kernel_rfl) (by kernel_rfl) (fun _ _ _ h => h) (Or.inl ⟨by rfl, fun W3 hS3 => ?take⟩) hHeld ?_
            case take => go_simp
            try simp only [Act.put, List.getElem_toArray, List.getElem_cons_zero, List.getElem_cons_succ, List.setIfInBounds_toArray, List.set_cons_zero, List.set_cons_succ]
            refine wpAnyH_take (i := 7) (v := .agg #[.int .i64 x1, .int .i64 x2, .int .i64 x3, .int .i64 y0, .int .i64 y1, .int .i64 y2, .int .i64 y3]) rfl (by kernel_rfl) (by kernel_rfl) (by kernel_rfl) (fun _ _ _ h => h) (Or.inl ⟨by rfl, fun W3 hS3 => ?take⟩) hHeld ?_
            case take => go_simp
            try simp only [Act.put, List.getElem_toArray, List.getElem_cons_zero, List.getElem_cons_succ, List.setIfInBounds_toArray, List.set_cons_zero, List.set_cons_succ]
            refine wpAnyH_ready (rs := [8]) (by kernel_rfl) (by simp) ?_
            refine AllReadyH.cons rfl (fun K hK => ?_) AllReadyH.nil
            go_simp
            refine hK.out _ _ ?keep (fun hHeld => ?_)
            clear hK K
            try simp only [Act.put, List.setIfInBounds_toArray, List.set_cons_zero, List.set_cons_succ]
            case keep => exact HK10.out
            refine wpAnyH_done (by kernel_rfl) ?_ _
            simp only [Exit.then]
            clear r0 r1 r2 r3 r4 r5 r6 r7 r8 r9 ra rb rc hHeld hrun
            gi_wp2
            obtain ⟨j0, hj0, hj1, hj2, hj3⟩ := info_parts Try.infoLev
            obtain ⟨a1, a2, a3, a4⟩ := HS9.out.apart
            obtain ⟨a5, a6, a7, _⟩ := a4 g9 rfl
            have hlt9 := HS9.out.lt
            have hz10 : W9.heap.size ≤ W10.heap.size := HG10.out.size
            have HROW : Hid (W10.ownsRow w2.heap.size 66 4 (.slice (some ⟨g9, 0, none⟩) es.length cap9) es.length (flatP (es.map fun e : Ent => e.1))) := Lib.hid (ownsRow_of_block HS9.out.row (fun k e => by
              simp only [Value.ownBlock, Option.some.injEq] at e
              subst e
              exact HK10.out _ (hlt9.2.2.2 _ rfl).2 a5))
            have HST : Hid (W10.heap[Bs]? = some (.cells #[.slice a t.length cap, .slice (some ⟨g9, 0, none⟩) es.length cap9, .map (some M)] 98 (0, 0))) := Lib.hid ((HK10.out Bs hlt9.2.1 (Ne.symm a1)).trans HS9.out.st)
            have HBL : Hid (Bs < W10.heap.size ∧ Bs ≠ g9) := Lib.hid ⟨by omega, Ne.symm a6⟩
            have HMB : Hid (M < (W5.alloc (.cells #[.slice a t.length cap] 29)).heap.size) := Lib.hid (by have := HS5.out.mp.lt; simp; omega)
            have hpc : padC nx = [.int .i64 z0, .int .i64 z1, .int .i64 z2, .int .i64 z3] := by
              have := hpn.out
              unfold pad levV at this
              simp only [Value.agg.injEq, Array.mk.injEq] at this
              unfold padC
              exact this
            have c1 : W10.cell? ⟨Bv, 0, none⟩ = some (.pointer (some ⟨Bs, 0, none⟩)) := kx_cell HK10.out HS9.out.mp HS9.out.cells.1
            have cc : W10.cell? ⟨Bs, 1, none⟩ = some (.slice (some ⟨g9, 0, none⟩) es.length cap9) := kx_cell HK10.out HS9.out.mp HS9.out.cells.2.2.1
            have hw710 : W10.heap[W7.heap.size]? = some (.cells #[.int .i64 z0, .int .i64 z1, .int .i64 z2, .int .i64 z3] 66 (0, 0)) := (HK10.out _ (Array.getElem?_eq_some_iff.1 HW79.out).1 (fun e => by
              obtain ⟨es', ck, hm, _⟩ := HS9.out.mp
              have := HW79.out
              rw [e, hm] at this; cases this)).trans HW79.out
            have q0 : W10.cell? ⟨W7.heap.size, 0, none⟩ = some (.int .i64 z0) := by simp [World.cell?, hw710]
            have q1 : W10.cell? ⟨W7.heap.size, 1, none⟩ = some (.int .i64 z1) := by simp [World.cell?, hw710]
            have q2 : W10.cell? ⟨W7.heap.size, 2, none⟩ = some (.int .i64 z2) := by simp [World.cell?, hw710]
            have q3 : W10.cell? ⟨W7.heap.size, 3, none⟩ = some (.int .i64 z3) := by simp [World.cell?, hw710]
            have n7 : W7.heap.size ≠ Bs := by have := HLT9.out.2; omega
            have n8 : W7.heap.size ≠ g9 := by have := HLT9.out.1; omega
            have r0 : ∀ W3, KY Bs g9 W10 W3 → W3.cell? ⟨Bv, 0, none⟩ = some (.pointer (some ⟨Bs, 0, none⟩)) := fun W3 h => ky_cell h a3 (Ne.symm a7) c1
            have r2 : ∀ W3, KY Bs g9 W10 W3 → W3.cell? ⟨W7.heap.size, 0, none⟩ = some (.int .i64 z0) := fun W3 h => ky_cell h n7 n8 q0
            have r3 : ∀ W3, KY Bs g9 W10 W3 → W3.cell? ⟨W7.heap.size, 1, none⟩ = some (.int .i64 z1) := fun W3 h => ky_cell h n7 n8 q1
            have r4 : ∀ W3, KY Bs g9 W10 W3 → W3.cell? ⟨W7.heap.size, 2, none⟩ = some (.int .i64 z2) := fun W3 h => ky_cell h n7 n8 q2
            have r5 : ∀ W3, KY Bs g9 W10 W3 → W3.cell? ⟨W7.heap.size, 3, none⟩ = some (.int .i64 z3) := fun W3 h => ky_cell h n7 n8 q3
            have hHeld : KY Bs g9 W10 W10.drew := fun _ _ _ _ => rfl
            have ca10 : (W10.alloc (.cells #[.int .i64 z0, .int .i64 z1, .int .i64 z2, .int .i64 z3] 66)).cell? ⟨Bs, 1, none⟩ = some (.slice (some ⟨g9, 0, none⟩) es.length cap9) := keep_cell ((Below.refl _ W10).alloc (Nat.le_refl _) _) cc
            have hn2 : w2.heap.size ≤ W10.heap.size := by have := HBW9.out.size; omega
            clear a1 a2 a3 a4 a5 a6 a7 c1 q0 q1 q2 q3 n7 n8 hw710 hlt9
            refine region_round (fun W3 => KY Bs g9 W10 W3) (by kernel_rfl) (by kernel_rfl) (fun _ _ h => h) ?_
            refine wpAnyH_take (i := 0) (v := .pointer (some ⟨Bs, 0, none⟩)) rfl (by kernel_rfl) (by kernel_rfl) (by kernel_rfl) (fun _ _ _ h => h) (Or.inl ⟨by rfl, fun W3 hS3 => ?take⟩) hHeld ?_
            case take => go_simp
            try simp only [Act.put, List.getElem_toArray, List.getElem_cons_zero, List.getElem_cons_succ, List.setIfInBounds_toArray, List.set_cons_zero, List.set_cons_succ]
            refine wpAnyH_take (i := 1) (v := .pointer (some ⟨Bs, 0, none⟩)) rfl (by kernel_rfl) (by kernel_rfl) (by kernel_rfl) (fun _ _ _ h => h) (Or.inl ⟨by rfl, fun W3 hS3 => ?take⟩) hHeld ?_
            case take => go_simp
            try simp only [Act.put, List.getElem_toArray, List.getElem_cons_zero, List.getElem_cons_succ, List.setIfInBounds_toArray, List.set_cons_zero, List.set_cons_succ]
            refine wpAnyH_take (i := 2) (v := .pointer (some ⟨Bs, 0, none⟩)) rfl (by kernel_rfl) (by kernel_rfl) (by kernel_rfl) (fun _ _ _ h => h) (Or.inl ⟨by rfl, fun W3 hS3 => ?take⟩) hHeld ?_
            case take => go_simp
            try simp only [Act.put, List.getElem_toArray, List.getElem_cons_zero, List.getElem_cons_succ, List.setIfInBounds_toArray, List.set_cons_zero, List.set_cons_succ]
            refine wpAnyH_take (i := 3) (v := .pointer (some ⟨Bs, 1, none⟩)) rfl (by kernel_rfl) (by kernel_rfl) (by kernel_rfl) (fun _ _ _ h => h) (Or.inl ⟨by rfl, fun W3 hS3 => ?take⟩) hHeld ?_
            case take => go_simp
            try simp only [Act.put, List.getElem_toArray, List.getElem_cons_zero, List.getElem_cons_succ, List.setIfInBounds_toArray, List.set_cons_zero, List.set_cons_succ]
            refine wpAnyH_take (i := 5) (v := .agg #[.int .i64 z0, .int .i64 z1, .int .i64 z2, .int .i64 z3]) rfl (by kernel_rfl) (by kernel_rfl) (by kernel_rfl) (fun _ _ _ h => h) (Or.inl ⟨by rfl, fun W3 hS3 => ?take⟩) hHeld ?_
            case take => go_simp
            try simp only [Act.put, List.getElem_toArray, List.getElem_cons_zero, List.getElem_cons_succ, List.setIfInBounds_toArray, List.set_cons_zero, List.set_cons_succ]
            refine wpAnyH_ready (rs := [4, 6]) (by kernel_rfl) (by simp) ?_
            refine AllReadyH.cons rfl (fun K hK => ?_) (AllReadyH.cons rfl (fun K hK => ?_) AllReadyH.nil)
            · go_simp
              refine hK.out _ _ hHeld (fun hHeld => ?_)
              clear hK K
              try simp only [Act.put, List.setIfInBounds_toArray, List.set_cons_zero, List.set_cons_succ]
              refine wpAnyH_ready (rs := [6]) (by kernel_rfl) (by simp) ?_
              refine AllReadyH.cons rfl (fun K hK => ?_) AllReadyH.nil
              go_simp
              refine hK.out _ _ ?keep (fun hHeld => ?_)
              clear hK K
              try simp only [Act.put, List.setIfInBounds_toArray, List.set_cons_zero, List.set_cons_succ]
              case keep => exact fun k h1 _ _ => by rw [heap_drew]; exact heap_alloc_lt h1
              refine wpAnyH_ready (rs := [7]) (by kernel_rfl) (by simp) ?_
              refine AllReadyH.cons rfl (fun K hK => ?_) AllReadyH.nil
              refine step_append_lies ((W10.alloc (.cells #[.int .i64 z0, .int .i64 z1, .int .i64 z2, .int .i64 z3] 66)).drew) (by rfl) _ _ 82 (by rfl) w2.heap.size 66 j0 (.agg #[.int .i64 0, .int .i64 0, .int .i64 0, .int .i64 0]) 4 32 Try.underlying82 hj0 hj1 hj2 hj3 rfl (by decide) (.slice (some ⟨g9, 0, none⟩) es.length cap9) es.length (flatP (es.map fun e : Ent => e.1)) (by rfl) (HROW.out.alloc _).drew ⟨W10.heap.size, 0, none⟩ 1 1 [.int .i64 z0, .int .i64 z1, .int .i64 z2, .int .i64 z3] (by rfl) rfl (cell4_new W10 _ _ _ _ _ rfl) (by intro u hu; simp at hu; rcases hu with rfl | rfl | rfl | rfl <;> rfl) (by omega) (by unfold maxLen; omega) (by omega) (by simp [heap_drew]; omega) (W10.heap.size + 1) (by simp [heap_drew]) ?_
              intro g' cap' w1 hown1 hg1 hat hlt1
              have hk21 : ∀ k, k < W10.heap.size → k ≠ g9 → w1.heap[k]? = W10.heap[k]? := fun k h1 h2 => (hg1.block k (by simp [heap_drew]; omega) (fun e => h2 (by simpa [Value.ownBlock] using e))).trans (by rw [heap_drew]; exact heap_alloc_lt h1)
              have hst1 := (hk21 Bs HBL.out.1 HBL.out.2).trans HST.out
              have cw1 : w1.cell? ⟨Bs, 1, none⟩ = some (.slice (some ⟨g9, 0, none⟩) es.length cap9) := by simp [World.cell?, hst1]
              have fw1 : w1.frozen? ⟨Bs, 1, none⟩ = false := by simp [World.frozen?, hst1]
              refine hK.out _ _ ?keep1 (fun hHeld => ?_)
              case keep1 => exact fun k h1 _ h2 => hk21 k h1 h2
              clear hK K hst1
              have HK21 := Lib.hid hk21
              clear hk21
              try simp only [Act.put, List.getElem_toArray, List.getElem_cons_zero, List.getElem_cons_succ, List.setIfInBounds_toArray, List.set_cons_zero, List.set_cons_succ]
              refine wpAnyH_take (i := 8) (v := .pointer (some ⟨Bs, 0, none⟩)) rfl (by kernel_rfl) (by kernel_rfl) (by kernel_rfl) (fun _ _ _ h => h) (Or.inl ⟨by rfl, fun W3 hS3 => ?take⟩) hHeld ?_
              case take => go_simp
              try simp only [Act.put, List.getElem_toArray, List.getElem_cons_zero, List.getElem_cons_succ, List.setIfInBounds_toArray, List.set_cons_zero, List.set_cons_succ]
              refine wpAnyH_take (i := 9) (v := .pointer (some ⟨Bs, 1, none⟩)) rfl (by kernel_rfl) (by kernel_rfl) (by kernel_rfl) (fun _ _ _ h => h) (Or.inl ⟨by rfl, fun W3 hS3 => ?take⟩) hHeld ?_
              case take => go_simp
              try simp only [Act.put, List.getElem_toArray, List.getElem_cons_zero, List.getElem_cons_succ, List.setIfInBounds_toArray, List.set_cons_zero, List.set_cons_succ]
              refine wpAnyH_ready (rs := [10]) (by kernel_rfl) (by simp) ?_
              refine AllReadyH.cons rfl (fun K hK => ?_) AllReadyH.nil
              go_simp
              refine hK.out _ _ ?keep (fun hHeld => ?_)
              clear hK K
              try simp only [Act.put, List.setIfInBounds_toArray, List.set_cons_zero, List.set_cons_succ]
              case keep => exact fun k h1 h2 h3 => (Below.heap_setCell _ _ _ k h2).trans (HK21.out k h1 h3)
              refine wpAnyH_done (by kernel_rfl) ?_ _
              simp only [Exit.then]
              have hadd := Lib.hid (Rnd.add (d := (x1, x2, x3)) (nx := nx) (x := x) rfl HMB.out HS9.out HNE9.out HNW9.out HMS9.out HBW9.out HSZ9.out HO10.out HG10.out (by rw [hpc]; exact hown1) hg1 hat)
              clear hown1 hg1 hat hlt1 cw1 fw1 hHeld
              gi_wp2
              refine ⟨(KeepsFrom.ofBelow HB9'.out).trans hadd.out.2.2, Kq.trans (Kq.below HB9'.out) hadd.out.2.1, ?_⟩
              have hq9 := hadd.out.1
              rw [← HSE.out, ← HFold.out] at hq9
              exact hq9
            · go_simp
              refine hK.out _ _ (fun k h1 _ _ => by rw [heap_drew]; exact heap_alloc_lt h1) (fun hHeld => ?_)
              clear hK K
              try simp only [Act.put, List.setIfInBounds_toArray, List.set_cons_zero, List.set_cons_succ]
              refine wpAnyH_ready (rs := [4]) (by kernel_rfl) (by simp) ?_
              refine AllReadyH.cons rfl (fun K hK => ?_) AllReadyH.nil
              go_simp
              refine hK.out _ _ ?keep (fun hHeld => ?_)
              clear hK K
              try simp only [Act.put, List.setIfInBounds_toArray, List.set_cons_zero, List.set_cons_succ]
              case keep => exact hHeld
              refine wpAnyH_ready (rs := [7]) (by kernel_rfl) (by simp) ?_
              refine AllReadyH.cons rfl (fun K hK => ?_) AllReadyH.nil
              refine step_append_lies ((W10.alloc (.cells #[.int .i64 z0, .int .i64 z1, .int .i64 z2, .int .i64 z3] 66)).drew) (by rfl) _ _ 82 (by rfl) w2.heap.size 66 j0 (.agg #[.int .i64 0, .int .i64 0, .int .i64 0, .int .i64 0]) 4 32 Try.underlying82 hj0 hj1 hj2 hj3 rfl (by decide) (.slice (some ⟨g9, 0, none⟩) es.length cap9) es.length (flatP (es.map fun e : Ent => e.1)) (by rfl) (HROW.out.alloc _).drew ⟨W10.heap.size, 0, none⟩ 1 1 [.int .i64 z0, .int .i64 z1, .int .i64 z2, .int .i64 z3] (by rfl) rfl (cell4_new W10 _ _ _ _ _ rfl) (by intro u hu; simp at hu; rcases hu with rfl | rfl | rfl | rfl <;> rfl) (by omega) (by unfold maxLen; omega) (by omega) (by simp [heap_drew]; omega) (W10.heap.size + 1) (by simp [heap_drew]) ?_
              intro g' cap' w1 hown1 hg1 hat hlt1
              have hk21 : ∀ k, k < W10.heap.size → k ≠ g9 → w1.heap[k]? = W10.heap[k]? := fun k h1 h2 => (hg1.block k (by simp [heap_drew]; omega) (fun e => h2 (by simpa [Value.ownBlock] using e))).trans (by rw [heap_drew]; exact heap_alloc_lt h1)
              have hst1 := (hk21 Bs HBL.out.1 HBL.out.2).trans HST.out
              have cw1 : w1.cell? ⟨Bs, 1, none⟩ = some (.slice (some ⟨g9, 0, none⟩) es.length cap9) := by simp [World.cell?, hst1]
              have fw1 : w1.frozen? ⟨Bs, 1, none⟩ = false := by simp [World.frozen?, hst1]
              refine hK.out _ _ ?keep1 (fun hHeld => ?_)
              case keep1 => exact fun k h1 _ h2 => hk21 k h1 h2
              clear hK K hst1
              have HK21 := Lib.hid hk21
              clear hk21
              try simp only [Act.put, List.getElem_toArray, List.getElem_cons_zero, List.getElem_cons_succ, List.setIfInBounds_toArray, List.set_cons_zero, List.set_cons_succ]
              refine wpAnyH_take (i := 8) (v := .pointer (some ⟨Bs, 0, none⟩)) rfl (by kernel_rfl) (by kernel_rfl) (by kernel_rfl) (fun _ _ _ h => h) (Or.inl ⟨by rfl, fun W3 hS3 => ?take⟩) hHeld ?_
              case take => go_simp
              try simp only [Act.put, List.getElem_toArray, List.getElem_cons_zero, List.getElem_cons_succ, List.setIfInBounds_toArray, List.set_cons_zero, List.set_cons_succ]
              refine wpAnyH_take (i := 9) (v := .pointer (some ⟨Bs, 1, none⟩)) rfl (by kernel_rfl) (by kernel_rfl) (by kernel_rfl) (fun _ _ _ h => h) (Or.inl ⟨by rfl, fun W3 hS3 => ?take⟩) hHeld ?_
              case take => go_simp
              try simp only [Act.put, List.getElem_toArray, List.getElem_cons_zero, List.getElem_cons_succ, List.setIfInBounds_toArray, List.set_cons_zero, List.set_cons_succ]
              refine wpAnyH_ready (rs := [10]) (by kernel_rfl) (by simp) ?_
              refine AllReadyH.cons rfl (fun K hK => ?_) AllReadyH.nil
              go_simp
              refine hK.out _ _ ?keep (fun hHeld => ?_)
              clear hK K
              try simp only [Act.put, List.setIfInBounds_toArray, List.set_cons_zero, List.set_cons_succ]
              case keep => exact fun k h1 h2 h3 => (Below.heap_setCell _ _ _ k h2).trans (HK21.out k h1 h3)
              refine wpAnyH_done (by kernel_rfl) ?_ _
              simp only [Exit.then]
              have hadd := Lib.hid (Rnd.add (d := (x1, x2, x3)) (nx := nx) (x := x) rfl HMB.out HS9.out HNE9.out HNW9.out HMS9.out HBW9.out HSZ9.out HO10.out HG10.out (by rw [hpc]; exact hown1) hg1 hat)
              clear hown1 hg1 hat hlt1 cw1 fw1 hHeld
              gi_wp2
              refine ⟨(KeepsFrom.ofBelow HB9'.out).trans hadd.out.2.2, Kq.trans (Kq.below HB9'.out) hadd.out.2.1, ?_⟩
              have hq9 := hadd.out.1
              rw [← HSE.out, ← HFold.out] at hq9
              exact hq9
        case done =>
          rintro D ys W' hD hys hI hK
          have k3 : IntKind.i64.wrap ((i : Int) + 1) = (i : Int) + 1 := IntWalk.i64_in _ (by have := HX.out.1; omega)
          have HN : Hid (bfs t l (i + 1) = (ys.map Subtype.val).foldl (stepE t x) (bfs t l i)) := Lib.hid (by
            rw [hys, bfs, if_pos HI.out.2, HX.out.2.2.2.2.1]
            rfl)
          rw [← HN.out] at hI
          obtain ⟨⟨lv, hS, _⟩, _, hms, hbw, hsz⟩ := hI
          have HR := Lib.hid (show (i + 1 ≤ (full t l).length ∧ Hid (∀ j, j < i + 1 → g ((full t l).getD j noE).1 = false) ∧ Srch w2.heap.size (.slice a t.length cap) Bv Bs M (bfs t l (i + 1)) lv W' ∧ MarksAt w2.heap.size (D :: ms) W' ∧ Below w2.heap.size w2 W') from
            ⟨by have h8 := HF.out.length_le; have h9 := HI.out.2; omega, Lib.hid (fun j hj => by
              rcases Nat.lt_succ_iff_lt_or_eq.1 hj with h' | rfl
              · exact NH.out j h'
              · rw [prefix_getD HF.out HI.out.2, ← HX.out.2.2.2.2.1]; exact HGX.out), hS, hms.cons (by have := HBW5.out.size; simp at hD; omega) hK (fun h' => by have := (Array.getElem?_eq_some_iff.1 (HMS5.out.2 D h').2).1; simp at hD; omega), hbw⟩)
          have HM : Hid (i < sizeR t) := Lib.hid (Nat.lt_of_lt_of_le HI.out.2 (bfs_len HT.out HL.out i))
          clear hS hms hbw hsz hK hys hD
          gi_wp2
          refine ⟨⟨i + 1, lv, D :: ms, HR.out, nsFrame_ex rfl⟩, ?_⟩
          have := HM.out
          simp [intOf]
          omega
        case stop =>
          rintro D c pre W _ _ h _
          exact h.elim
    · obtain ⟨gr, gcap, rfl⟩ := hS.isS
      obtain ⟨ca, cb, cc, cd⟩ := hS.cells
      have hle : (bfs t l i).length ≤ i := by omega
      have HE := Lib.hid (full_eq HT.out HL.out hle)
      have HS := Lib.hid hS
      have HMS := Lib.hid hms
      have HBW := Lib.hid hbW
      have HI := Lib.hid (And.intro hi hle)
      clear hS hms hbW hi hle
      gi_wp2
      refine leaves_marks ms _ HMS.out (fun W7 h1 _ h3 => ⟨_, results_tmp2 rfl _ _ _, ?_⟩)
      have hlv := HS.out.levs
      refine newS_end (n := (full t l).length) (k := i) HS.out.st ?_ HS.out.mp (by rw [HE.out]; exact Nat.le_refl _) (.inr ⟨rfl, rfl, fun j hj => NH.out j (by have := HI.out.2; rw [HE.out] at this; omega)⟩) (HB2.out.trans (HBW.out.mono HB2.out.size)) HMS.out (by omega) h1 h3
      rw [List.take_length, ← HE.out]
      exact hlv

theorem newSearch_any (g : List Int → Bool) (gf : Nat) (lb : Array Value) (eg : ∀ args w, (callFunc gf args).run Try.prog w = .ok (.enter gf args) w) (v : Value) (t l : List Int) (w : World) (hv : IntsAt w v t) (ht : Tvl t) (hl : Lev t l)
    (hgoal : ∀ W l', Below w.heap.size w W → Lev t l' → Calls Try.prog gf (#[pad l'] ++ lb) W fun e W' => e = .returned (.bool (g l')) ∧ Below W.heap.size W W') :
    Calls Try.prog 60 #[v, pad l, .func (.func gf) #[] lb] w (NewS v t l g w) :=
  (callsIn_wide (n := 4)).1 (newSearch_in g gf lb eg v t l w hv ht hl hgoal)

end Go.Proofs.Ytikcpfpeoofppaa
