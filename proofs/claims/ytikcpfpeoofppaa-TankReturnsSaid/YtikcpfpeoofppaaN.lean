/- Contracts: levels out of a list (the program); what is asked. -/
import Derived.Test.YtikcpfpeoofppaaM
namespace Go.Proofs.Ytikcpfpeoofppaa
open Go.RowKit

theorem heap_set {W : World} {B k : Nat} {cur : Array Value} {t : TypeId} {fr : Nat × Nat} (h : W.heap[B]? = some (Obj.cells cur t fr)) (v : Value) : (W.setCell ⟨B, k, none⟩ v).heap[B]? = some (Obj.cells (cur.setIfInBounds k v) t fr) := by
  obtain ⟨hlt, hk⟩ := Array.getElem?_eq_some_iff.1 h
  show (W.heap.modify B _)[B]? = _
  rw [Array.getElem?_eq_getElem (by rw [Array.size_modify]; exact hlt), Array.getElem_modify_self, hk]
  rfl

/-- The first k levels, the rest zero. -/
def padA (l : List Int) (k : Nat) : Array Value := #[.int .i64 ((l.take k).getD 0 0), .int .i64 ((l.take k).getD 1 0), .int .i64 ((l.take k).getD 2 0), .int .i64 ((l.take k).getD 3 0)]
theorem take_getD (l : List Int) (k j : Nat) : (l.take k).getD j 0 = if j < k then l.getD j 0 else 0 := by
  simp only [List.getD_eq_getElem?_getD, List.getElem?_take]
  split <;> simp
theorem padA_set {l : List Int} {k : Nat} (hk : k < 4) : (padA l k).setIfInBounds k (.int .i64 (l.getD k 0)) = padA l (k + 1) := by
  unfold padA
  simp only [take_getD]
  have hc : k = 0 ∨ k = 1 ∨ k = 2 ∨ k = 3 := by omega
  rcases hc with rfl | rfl | rfl | rfl <;> simp
theorem padA_full (l : List Int) : Value.agg (padA l l.length) = pad l := by
  unfold padA pad levV
  rw [List.take_length]

theorem cellsA {W : World} {B : Nat} {l : List Int} {k : Nat} {t : TypeId} (h : W.heap[B]? = some (Obj.cells (padA l k) t (0, 0))) :
    W.cell? ⟨B, 0, none⟩ = some (.int .i64 ((l.take k).getD 0 0)) ∧ W.cell? ⟨B, 1, none⟩ = some (.int .i64 ((l.take k).getD 1 0)) ∧ W.cell? ⟨B, 2, none⟩ = some (.int .i64 ((l.take k).getD 2 0)) ∧ W.cell? ⟨B, 3, none⟩ = some (.int .i64 ((l.take k).getD 3 0)) := by
  refine ⟨?_, ?_, ?_, ?_⟩ <;> (simp only [World.cell?, h]; rfl)

theorem frozenA {W : World} {B : Nat} {cur : Array Value} {t : TypeId} (h : W.heap[B]? = some (Obj.cells cur t (0, 0))) (j : Nat) : W.frozen? ⟨B, j, none⟩ = false := by
  simp [World.frozen?, h]
theorem cellK {W : World} {B : Nat} {l : List Int} {k : Nat} {t : TypeId} (h : W.heap[B]? = some (Obj.cells (padA l k) t (0, 0))) (hk : k < 4) : W.cell? ⟨B, k, none⟩ = some (.int .i64 0) := by
  have hc : k = 0 ∨ k = 1 ∨ k = 2 ∨ k = 3 := by omega
  rcases hc with rfl | rfl | rfl | rfl <;> (simp only [World.cell?, h, padA, take_getD]; rfl)

set_option maxHeartbeats 2000000 in
theorem newLevels_any (v x : Value) (t l : List Int) (w : World) (hv : IntsAt w v t) (hx : IntsAt w x l) (h4 : t.length ≤ 4) :
    Calls Try.prog 87 #[v, x] w fun e w' => ((Lev t l ∧ e = .returned (.tuple #[pad l, .bool true])) ∨ (¬ Lev t l ∧ ∃ p0 p1 p2 p3, e = .returned (.tuple #[.agg #[.int .i64 p0, .int .i64 p1, .int .i64 p2, .int .i64 p3], .bool false]))) ∧ Below w.heap.size w w' := by
  obtain ⟨a, cap, rfl, _, hq⟩ := hv
  obtain ⟨a2, cap2, rfl, hl2, hq2⟩ := hx
  by_cases hlen : l.length = t.length
  · rw [hlen] at hq2 ⊢
    have HL := Lib.hid hlen
    clear hlen hl2
    go_enter Try.func87, Try.ntmps87
    go_wp2
    go_loopw [17] (fun i wr => ∃ k : Nat, k ≤ t.length ∧ i = .int .i64 k ∧ Hid (∀ j, j < k → 0 ≤ l.getD j 0 ∧ l.getD j 0 ≤ t.getD j 0) ∧ wr.heap[w.heap.size]? = some (Obj.cells #[.int .i64 0, .int .i64 0, .int .i64 0, .int .i64 0] 66 (0, 0)) ∧ wr.heap[w.heap.size + 1]? = some (Obj.cells (padA l k) 66 (0, 0)) ∧ Below w.heap.size w wr) (fun i _ => t.length - (intOf i).toNat)
    case atStart =>
      refine ⟨0, Nat.zero_le _, rfl, Lib.hid (fun j hj => by omega), ?_, ?_, ?_⟩
      · exact (Below.heap_alloc _ _ _ (by simp)).trans (World.alloc_heap_new w _)
      · have := World.alloc_heap_new (w.alloc (.cells #[.int .i64 0, .int .i64 0, .int .i64 0, .int .i64 0] 66)) (.cells #[.int .i64 0, .int .i64 0, .int .i64 0, .int .i64 0] 66)
        rwa [World.size_alloc] at this
      · repeat (first | assumption | exact Below.refl _ _ | refine Below.setCell ?_ (by first | omega | (simp; done) | (simp; omega)) _ | refine Below.drew ?_ | refine Below.alloc ?_ (by first | omega | (simp; done) | (simp; omega)) _)
    case round =>
      obtain ⟨k, hk, rfl, H, hz, hp, hbel⟩ := hrel
      obtain ⟨c0, c1, c2, c3⟩ := cellsA hp
      obtain ⟨z0, z1, z2, z3⟩ := cellsA (l := []) (k := 0) hz
      simp only [List.take_nil, List.getD_nil] at z0 z1 z2 z3
      have f0 := frozenA hz 0
      have f1 := frozenA hz 1
      have f2 := frozenA hz 2
      have f3 := frozenA hz 3
      have PF := Lib.hid (padA_full l)
      unfold padA at PF
      by_cases hlt : k < t.length
      · have ck := cellK hp (by omega)
        have fk := frozenA hp k
        obtain ⟨b, off, rfl, hc⟩ := hq (by omega)
        obtain ⟨b2, off2, rfl, hc2⟩ := hq2 (by omega)
        have x1 := keep_cell hbel (hc k hlt)
        have x2 := keep_cell hbel (hc2 k hlt)
        have PS := Lib.hid (padA_set (l := l) (k := k) (by omega))
        clear hc hc2 hq hq2
        have N := Lib.hid (fun (h : betw 0 (l.getD k 0) (t.getD k 0) = false) => show ¬ Lev t l from fun hL => by
          have := (betw_iff _ _ _).2 (hL.2 k hlt)
          rw [h] at this
          cases this)
        have Y := Lib.hid (fun (h : betw 0 (l.getD k 0) (t.getD k 0) = true) => show ∀ j, j < k + 1 → 0 ≤ l.getD j 0 ∧ l.getD j 0 ≤ t.getD j 0 from fun j hj => by
          rcases Nat.lt_succ_iff_lt_or_eq.1 hj with h' | rfl
          · exact H.out j h'
          · exact (betw_iff _ _ _).1 h)
        generalize l.getD k 0 = y at *
        generalize t.getD k 0 = z at *
        clear PF
        generalize (l.take k).getD 0 0 = p0 at *
        generalize (l.take k).getD 1 0 = p1 at *
        generalize (l.take k).getD 2 0 = p2 at *
        generalize (l.take k).getD 3 0 = p3 at *
        cases hb : betw 0 y z with
        | true =>
          have R := Lib.hid (Y.out hb)
          have B := Lib.hid hb
          clear Y N hb
          go_wp2_with (go_at_call 53; refine (between_any _ _ _ _).mono ?_; rintro e w' ⟨rfl, rfl⟩; rw [B.out])
          go_roundw
          case rel => exact ⟨k + 1, by omega, by go_num, R, (Below.heap_setCell _ _ _ _ (by simp)).trans hz, by rw [← PS.out]; exact heap_set hp _, hbel.setCell (by simp) _⟩
          case measure => simp [intOf]; omega
        | false =>
          have R := Lib.hid (N.out hb)
          have B := Lib.hid hb
          clear Y N hb
          go_wp2_with (go_at_call 53; refine (between_any _ _ _ _).mono ?_; rintro e w' ⟨rfl, rfl⟩; rw [B.out])
          refine bodyPost_ret (v := .tuple #[.agg #[.int .i64 p0, .int .i64 p1, .int .i64 p2, .int .i64 p3], .bool false]) (by simp [results, Try.results87, go_sem, z0, z1, z2, z3]) rfl ⟨.inr ⟨R.out, _, _, _, _, rfl⟩, ?_⟩
          repeat (first | assumption | exact Below.refl _ _ | refine Below.setCell ?_ (by first | omega | (simp; done) | (simp; omega)) _ | refine Below.drew ?_ | refine Below.alloc ?_ (by first | omega | (simp; done) | (simp; omega)) _)
      · obtain rfl : k = t.length := by omega
        have hlen2 := HL.out
        rw [hlen2] at PF
        have N := Lib.hid (show Lev t l from ⟨hlen2, H.out⟩)
        clear hlen2 hq hq2 hp HL
        generalize (l.take t.length).getD 0 0 = p0 at *
        generalize (l.take t.length).getD 1 0 = p1 at *
        generalize (l.take t.length).getD 2 0 = p2 at *
        generalize (l.take t.length).getD 3 0 = p3 at *
        go_wp2
        refine bodyPost_ret (v := .tuple #[.agg #[.int .i64 p0, .int .i64 p1, .int .i64 p2, .int .i64 p3], .bool true]) (by simp [results, Try.results87, go_sem, z0, z1, z2, z3]) rfl ⟨.inl ⟨N.out, by rw [PF.out]⟩, ?_⟩
        repeat (first | assumption | exact Below.refl _ _ | refine Below.setCell ?_ (by first | omega | (simp; done) | (simp; omega)) _ | refine Below.drew ?_ | refine Below.alloc ?_ (by first | omega | (simp; done) | (simp; omega)) _)
  · have hb : (((l.length : Nat) : Int) != ((t.length : Nat) : Int)) = true := by rw [bne_iff_ne]; omega
    have N := Lib.hid (show ¬ Lev t l from fun h => hlen h.1)
    clear hlen hq hq2
    go_enter Try.func87, Try.ntmps87
    go_wp2
    refine bodyPost_ret (v := .tuple #[.agg #[.int .i64 0, .int .i64 0, .int .i64 0, .int .i64 0], .bool false]) (by simp [results, Try.results87, go_sem]) rfl ⟨.inr ⟨N.out, _, _, _, _, rfl⟩, ?_⟩
    repeat (first | assumption | exact Below.refl _ _ | refine Below.setCell ?_ (by first | omega | (simp; done) | (simp; omega)) _ | refine Below.drew ?_ | refine Below.alloc ?_ (by first | omega | (simp; done) | (simp; omega)) _)

end Go.Proofs.Ytikcpfpeoofppaa
