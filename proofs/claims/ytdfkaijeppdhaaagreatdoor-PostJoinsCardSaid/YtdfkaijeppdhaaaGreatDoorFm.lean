/- Contracts: Same of two lists of strings; Sane. -/
import Derived.Test.YtdfkaijeppdhaaaGreatDoorFl
namespace Go.Proofs.YtdfkaijeppdhaaaGreatDoor
open Go.RowKit Go.Shelf

/-- A slice of strings. -/
def StrsW (w : World) (v : Value) (l : List ByteArray) : Prop := ∃ (a : Option Addr) (cap : Nat), v = .slice a l.length cap ∧ (0 < l.length → ∃ b off, a = some ⟨b, off, none⟩ ∧ ∀ j, j < l.length → w.cell? ⟨b, off + j, none⟩ = some (.string (l.getD j emp)))
theorem StrsW.below {w w' : World} {v : Value} {l : List ByteArray} (h : StrsW w v l) (hb : Below w.heap.size w w') : StrsW w' v l := by
  obtain ⟨a, cap, rfl, h⟩ := h
  refine ⟨a, cap, rfl, fun h0 => ?_⟩
  obtain ⟨b, off, ha, hc⟩ := h h0
  exact ⟨b, off, ha, fun j hj => keep_cell hb (hc j hj)⟩
theorem StrsAt.weak {w : World} {v : Value} {l : List ByteArray} (h : StrsAt w v l) : StrsW w v l := by
  obtain ⟨a, cap, rfl, _, _, h⟩ := h
  exact ⟨a, cap, rfl, h⟩
theorem strsW_own {base : Nat} {w : World} {v : Value} {l : List ByteArray} (h : w.ownsRow base 9 1 v l.length (l.map Value.string)) : StrsW w v l := by
  rcases h.2 with ⟨rfl, h0⟩ | ⟨g, cap, cur, rfl, hrest⟩
  · exact ⟨none, 0, by rw [h0], fun h1 => by omega⟩
  · refine ⟨some ⟨g, 0, none⟩, cap, rfl, fun _ => ⟨g, 0, rfl, fun j hj => ?_⟩⟩
    have := h.cellAt j (by omega)
    rw [Nat.zero_add, this, List.getElem?_map, List.getElem?_eq_getElem hj, List.getD_eq_getElem?_getD, List.getElem?_eq_getElem hj]
    rfl
theorem take_next {l m : List ByteArray} {k : Nat} (hl : k < l.length) (hm : k < m.length) (h : l.take k = m.take k) (hx : l.getD k emp = m.getD k emp) : l.take (k + 1) = m.take (k + 1) := by
  rw [List.take_succ_eq_append_getElem hl, List.take_succ_eq_append_getElem hm, h]
  rw [List.getD_eq_getElem?_getD, List.getD_eq_getElem?_getD, List.getElem?_eq_getElem hl, List.getElem?_eq_getElem hm] at hx
  simp at hx
  rw [hx]
set_option maxRecDepth 100000 in
set_option maxHeartbeats 4000000 in
theorem sameS_any (v v2 : Value) (l m : List ByteArray) (hl6 : l.length ≤ 1000000) (w : World) (h : StrsW w v l) (h2 : StrsW w v2 m) :
    Calls Tryz.prog 19 #[v, v2] w (BoolPost (decide (l = m)) w) := by
  obtain ⟨a, cap, rfl, h⟩ := h
  obtain ⟨a2, cap2, rfl, h2⟩ := h2
  obtain ⟨R, hR⟩ : ∃ R, R = decide (l = m) := ⟨_, rfl⟩
  have HR := Lib.hid hR
  rw [← hR]
  clear hR
  by_cases hlen : l.length = m.length
  · have HC1 := Lib.hid (fun k (hk : k < l.length) => (h (by omega)))
    have HC2 := Lib.hid (fun k (hk : k < m.length) => (h2 (by omega)))
    have HE := Lib.hid hlen
    rw [hlen]
    obtain ⟨n, hn⟩ : ∃ n, n = m.length := ⟨_, rfl⟩
    have HN := Lib.hid hn
    rw [← hn]
    have hn6 : n ≤ 1000000 := by omega
    clear h h2 hlen hn
    go_enter Tryz.func19, Tryz.ntmps19
    go_wp2
    go_loopw [5] (fun i wr => ∃ k : Nat, k ≤ n ∧ i = .int .i64 k ∧ Hid (l.take k = m.take k) ∧ Below w.heap.size w wr) (fun i _ => n - (intOf i).toNat)
    case atStart => exact ⟨0, Nat.zero_le _, rfl, Lib.hid rfl, Below.refl _ _⟩
    case round =>
      obtain ⟨k, hk, rfl, ht, hb⟩ := hrel
      by_cases hlt : k < n
      · obtain ⟨b, off, rfl, hc⟩ := HC1.out k (by rw [HE.out, ← HN.out]; exact hlt)
        obtain ⟨b2, off2, rfl, hc2⟩ := HC2.out k (by rw [← HN.out]; exact hlt)
        have c1 := keep_cell hb (hc k (by rw [HE.out, ← HN.out]; exact hlt))
        have c2 := keep_cell hb (hc2 k (by rw [← HN.out]; exact hlt))
        have HT := Lib.hid (fun hx => take_next (l := l) (m := m) (k := k) (by rw [HE.out, ← HN.out]; exact hlt) (by rw [← HN.out]; exact hlt) ht.out hx)
        have HX := Lib.hid (fun (hx : l.getD k emp ≠ m.getD k emp) => show R = false by
          rw [HR.out, decide_eq_false]
          rintro rfl
          exact hx rfl)
        have HB := Lib.hid hb
        clear hc hc2 hb
        generalize l.getD k emp = x at *
        generalize m.getD k emp = y at *
        by_cases hxy : x = y
        · subst hxy
          have HTT := Lib.hid (HT.out rfl)
          go_wp2
          go_quiet (fail)
          go_wp2
          go_roundw
          case rel => exact ⟨k + 1, by omega, by go_num, HTT, belowD HB.out _⟩
          case measure => simp [intOf]; omega
        · have z0 := ba_lne hxy
          have HXX := Lib.hid (HX.out hxy)
          clear hxy
          go_wp2
          go_quiet (fail)
          go_wp2
          go_ret
          rw [HXX.out]
          exact ⟨rfl, belowD HB.out _⟩
      · have e : k = n := by omega
        have HXX : Hid (R = true) := Lib.hid (by
          have h9 := ht.out
          rw [e, HN.out] at h9
          rw [List.take_length, ← HE.out, List.take_length] at h9
          rw [HR.out, h9, decide_eq_true rfl])
        clear e
        go_wp2
        go_ret
        rw [HXX.out]
        exact ⟨rfl, hb⟩
  · have HXX : Hid (R = false) := Lib.hid (by rw [HR.out, decide_eq_false]; rintro rfl; exact hlen rfl)
    have z0 : ¬ (l.length : Int) = (m.length : Int) := by omega
    generalize l.length = n1 at *
    generalize m.length = n2 at *
    clear h h2
    go_enter Tryz.func19, Tryz.ntmps19
    go_wp2
    go_ret
    rw [HXX.out]
    exact ⟨rfl, Below.refl _ _⟩

/-! ### Sane -/
def askT (b : Book) (line : ByteArray) : ByteArray × Int := match parseB line with
  | some (.asked 0 names _) => askedV ansText names (saysB (allB b))
  | _ => (emp, 0)
def saneL : List ByteArray := [⟨#[48, 32, 112, 117, 116, 32, 97, 32, 120]⟩, ⟨#[49, 32, 112, 117, 116, 32, 97, 32, 121]⟩, ⟨#[48, 32, 106, 111, 105, 110, 32, 49]⟩, ⟨#[48, 32, 116, 101, 120, 116, 32, 97]⟩]
theorem sane_play : (playN askT saneL 4).1 = [⟨#[120]⟩, ⟨#[121]⟩, ⟨#[50]⟩, ⟨#[121]⟩] := by kernel_rfl
theorem sane_ask : ∀ k, k < 4 → Cmd.askO (parseB (restW (saneL.getD k emp))) = true → parseB (restW (saneL.getD k emp)) = some (.asked 0 [⟨#[97]⟩] []) := by
  intro k hk h
  rcases (show k = 0 ∨ k = 1 ∨ k = 2 ∨ k = 3 by omega) with rfl | rfl | rfl | rfl
  · exact absurd h (by rw [show Cmd.askO (parseB (restW (saneL.getD 0 emp))) = false by kernel_rfl]; decide)
  · exact absurd h (by rw [show Cmd.askO (parseB (restW (saneL.getD 1 emp))) = false by kernel_rfl]; decide)
  · exact absurd h (by rw [show Cmd.askO (parseB (restW (saneL.getD 2 emp))) = false by kernel_rfl]; decide)
  · kernel_rfl
theorem askT_small (b : Book) (l : ByteArray) : 0 ≤ (askT b l).2 ∧ (askT b l).2 ≤ 1000 := by
  unfold askT
  split
  · unfold askedV ansText
    split <;> simp
  · simp

theorem ask_text_any (P n : Nat) (F : List Nat) (b : Book) (line : ByteArray) (hs : line.size ≤ 1000000) (w : World) (h : PostAt w P F n b) (hok : BookOk b) (hV : Vars w) (names : List ByteArray) (ns : List Int) (hc : parseB line = some (.asked 0 names ns)) (h0 : 0 < names.length) (hl : names.length ≤ 1000) :
    Calls Tryz.prog 36 #[.pointer (some ⟨P, 0, none⟩), .string line] w (AnsPost (askedV ansText names (saysB (allB b))) w) :=
  askq_asked P n F b line hs w h hok hV 0 names ns hc h0 hl ansText (enters_of Tryz.func116 (by kernel_rfl) rfl) fun W base tv bv ts _ _ hrow _ hts => by
    have hlen := allS_len _ _ _ hts
    exact text_kind W base tv bv ts hrow (by omega) (by omega)
set_option maxRecDepth 100000 in
set_option maxHeartbeats 4000000 in
theorem sane_any (w : World) (hV : Vars w) : Calls Tryz.prog 16 #[] w (BoolPost true w) := by
  obtain ⟨w1, hw1⟩ : ∃ w1, w1 = w.alloc (.cells #[.string ⟨#[48, 32, 112, 117, 116, 32, 97, 32, 120]⟩, .string ⟨#[49, 32, 112, 117, 116, 32, 97, 32, 121]⟩, .string ⟨#[48, 32, 106, 111, 105, 110, 32, 49]⟩, .string ⟨#[48, 32, 116, 101, 120, 116, 32, 97]⟩] 9) := ⟨_, rfl⟩
  have hb1 : Below w.heap.size w w1 := by rw [hw1]; exact (Below.refl _ _).alloc (Nat.le_refl _) _
  have hc1 : w1.heap[w.heap.size]? = some (.cells #[.string ⟨#[48, 32, 112, 117, 116, 32, 97, 32, 120]⟩, .string ⟨#[49, 32, 112, 117, 116, 32, 97, 32, 121]⟩, .string ⟨#[48, 32, 106, 111, 105, 110, 32, 49]⟩, .string ⟨#[48, 32, 116, 101, 120, 116, 32, 97]⟩] 9 (0, 0)) := by rw [hw1]; exact World.alloc_heap_new w _
  have hL : StrsAt w1 (.slice (some ⟨w.heap.size, 0, none⟩) 4 4) saneL := ⟨_, 4, rfl, by decide, by omega, fun _ => ⟨w.heap.size, 0, rfl, fun j hj => by
    have hj4 : j < 4 := hj
    rcases (show j = 0 ∨ j = 1 ∨ j = 2 ∨ j = 3 by omega) with rfl | rfl | rfl | rfl <;> exact heap_cell hc1 rfl⟩⟩
  have HB1 := Lib.hid hb1
  have HPL := Lib.hid (play_any askT askT_small _ saneL w1 hL (by decide) (fun x hx => by
    simp only [saneL, List.mem_cons, List.not_mem_nil, or_false] at hx
    rcases hx with rfl | rfl | rfl | rfl <;> decide) (hV.below hb1) (fun k hk P n F b W hn hp hok hv hq => by
      have h9 := sane_ask k hk hq
      have h8 := ask_text_any P n F b _ (by
        have h7 := rest_size (saneL.getD k emp)
        have h6 : (saneL.getD k emp).size ≤ 100 := by
          have hk4 : k < 4 := hk
          rcases (show k = 0 ∨ k = 1 ∨ k = 2 ∨ k = 3 by omega) with rfl | rfl | rfl | rfl <;> decide
        omega) W hp hok hv _ _ h9 (by decide) (by decide)
      rw [show askT b (restW (saneL.getD k emp)) = askedV ansText [⟨#[97]⟩] (saysB (allB b)) by unfold askT; rw [h9]; rfl]
      exact h8))
  rw [show (playN askT saneL saneL.length).1 = [⟨#[120]⟩, ⟨#[121]⟩, ⟨#[50]⟩, ⟨#[121]⟩] from sane_play] at HPL
  have HW1 := Lib.hid hw1
  clear hb1 hc1 hL hw1 hV
  go_enter Tryz.func16, Tryz.ntmps16
  go_wp2_with fail
  rw [← HW1.out]
  refine HPL.out.mono ?_
  rintro e w2 ⟨v, rfl, hown, hb2⟩
  have HB2 := Lib.hid (below_trans HB1.out hb2)
  obtain ⟨w3, hw3⟩ : ∃ w3, w3 = w2.alloc (.cells #[.string ⟨#[120]⟩, .string ⟨#[121]⟩, .string ⟨#[50]⟩, .string ⟨#[121]⟩] 9) := ⟨_, rfl⟩
  have hb3 : Below w2.heap.size w2 w3 := by rw [hw3]; exact (Below.refl _ _).alloc (Nat.le_refl _) _
  have hc3 : w3.heap[w2.heap.size]? = some (.cells #[.string ⟨#[120]⟩, .string ⟨#[121]⟩, .string ⟨#[50]⟩, .string ⟨#[121]⟩] 9 (0, 0)) := by rw [hw3]; exact World.alloc_heap_new w2 _
  have HSM := Lib.hid (sameS_any v (.slice (some ⟨w2.heap.size, 0, none⟩) 4 4) [⟨#[120]⟩, ⟨#[121]⟩, ⟨#[50]⟩, ⟨#[121]⟩] [⟨#[120]⟩, ⟨#[121]⟩, ⟨#[50]⟩, ⟨#[121]⟩] (by decide) w3 ((strsW_own hown).below hb3) ⟨_, 4, rfl, fun _ => ⟨w2.heap.size, 0, rfl, fun j hj => by
    have hj4 : j < 4 := hj
    rcases (show j = 0 ∨ j = 1 ∨ j = 2 ∨ j = 3 by omega) with rfl | rfl | rfl | rfl <;> exact heap_cell hc3 rfl⟩⟩)
  rw [decide_eq_true rfl] at HSM
  have HB3 := Lib.hid (below_trans HB2.out hb3)
  have HW3 := Lib.hid hw3
  clear hown hb2 hb3 hc3 hw3
  go_wp2_with fail
  rw [← HW3.out]
  refine HSM.out.mono ?_
  rintro e w4 ⟨rfl, hb4⟩
  have HB4 := Lib.hid (below_trans HB3.out hb4)
  clear hb4
  go_wp2
  go_ret
  exact ⟨rfl, HB4.out⟩
end Go.Proofs.YtdfkaijeppdhaaaGreatDoor
