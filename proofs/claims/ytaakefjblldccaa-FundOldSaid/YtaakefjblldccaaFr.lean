/- Contract: going over all orders (the inner function). -/
import Derived.Test.YtaakefjblldccaaRl
import Derived.Test.YtaakefjblldccaaPf
import Derived.RangeFuncBox
import Derived.RangeFuncNested
import Derived.RangeFuncLeaves
import Derived.WalkKit
import Derived.OwnWalkIn
import Derived.TacticsInMore
import Derived.LoopNIn
import Derived.LoopIn
import Derived.KernelRfl
namespace Go.Proofs.Ytaakefjblldccaa
open Go.RowKit

attribute [local go_sem] Oper.semAt_some


def intsA (l : List Nat) : Array Value := (l.map fun (i : Nat) => Value.int .i64 i).toArray
def capsV (bn B : Nat) : Array Value := #[.pointer (some ⟨bn, 0, none⟩), .pointer (some ⟨B, 0, none⟩), .pointer (some ⟨B + 2, 0, none⟩), .pointer (some ⟨B + 3, 0, none⟩)]
/-- The iterator's blocks. -/
structure St (n bn B lo : Nat) (X : World) (l : List Nat) : Prop where
  nb : X.heap[bn]? = some (.cells #[.int .i64 n] 3 (0, 0))
  yb : X.heap[B]? = some (.cells #[.func (.yield lo) #[] #[]] 31 (0, 0))
  rb : X.heap[B + 1]? = some (.cells (intsA l) 3 (0, 0))
  hb : X.heap[B + 2]? = some (.cells #[.slice (some ⟨B + 1, 0, none⟩) n n] 29 (0, 0))
  fb : X.heap[B + 3]? = some (.cells #[.func (.func 103) #[] (capsV bn B)] 87 (0, 0))

def RowO (n B : Nat) (x : List Nat) (v : Value) (X : World) : Prop := v = .slice (some ⟨B + 1, 0, none⟩) n n ∧ X.heap[B + 1]? = some (.cells (intsA x) 3 (0, 0)) ∧ x.length = n ∧ ∀ i ∈ x, i < n
theorem cell_of {X : World} {b j : Nat} {A : Array Value} {T : TypeId} {fr : Nat × Nat} {v : Value} (h : X.heap[b]? = some (.cells A T fr)) (hj : A[j]? = some v) : X.cell? ⟨b, j, none⟩ = some v := by
  simp [World.cell?, h, hj]

theorem St.keep {n bn B lo n0 : Nat} {X Y : World} {l : List Nat} (h : St n bn B lo X l) (h0 : n0 ≤ bn) (hb : bn < B) (hk : ∀ k, n0 ≤ k → k < X.heap.size → Y.heap[k]? = X.heap[k]?) : St n bn B lo Y l := by
  have lt : ∀ {k o}, X.heap[k]? = some o → k < X.heap.size := fun h => (Array.getElem?_eq_some_iff.1 h).1
  exact ⟨(hk _ h0 (lt h.nb)).trans h.nb, (hk _ (by omega) (lt h.yb)).trans h.yb, (hk _ (by omega) (lt h.rb)).trans h.rb, (hk _ (by omega) (lt h.hb)).trans h.hb, (hk _ (by omega) (lt h.fb)).trans h.fb⟩
theorem St.cell {n bn B lo : Nat} {X : World} {l : List Nat} (h : St n bn B lo X l) {j : Nat} (hj : j < l.length) : X.cell? ⟨B + 1, j, none⟩ = some (.int .i64 (l.getD j 0 : Nat)) := by
  apply cell_of h.rb
  simp [intsA, List.getD_eq_getElem?_getD, hj]
theorem St.frozen {n bn B lo : Nat} {X : World} {l : List Nat} (h : St n bn B lo X l) (j : Nat) : X.frozen? ⟨B + 1, j, none⟩ = false := by simp [World.frozen?, h.rb]
theorem St.set {n bn B lo : Nat} {X : World} {l : List Nat} (h : St n bn B lo X l) (hb : bn < B) (j x : Nat) : St n bn B lo (X.setCell ⟨B + 1, j, none⟩ (.int .i64 x)) (l.set j x) := by
  have ne : ∀ k, k ≠ B + 1 → (X.setCell ⟨B + 1, j, none⟩ (.int .i64 x)).heap[k]? = X.heap[k]? := fun k hk => Below.heap_setCell _ _ _ _ hk
  refine ⟨(ne _ (by omega)).trans h.nb, (ne _ (by omega)).trans h.yb, ?_, (ne _ (by omega)).trans h.hb, (ne _ (by omega)).trans h.fb⟩
  obtain ⟨hlt, hk⟩ := Array.getElem?_eq_some_iff.1 h.rb
  show (X.heap.modify (B + 1) _)[B + 1]? = _
  rw [Array.getElem?_eq_getElem (by rw [Array.size_modify]; exact hlt), Array.getElem_modify_self, hk]
  simp [intsA, List.map_set]
theorem St.drew {n bn B lo : Nat} {X : World} {l : List Nat} (h : St n bn B lo X l) : St n bn B lo X.drew l := ⟨h.nb, h.yb, h.rb, h.hb, h.fb⟩
theorem swapL_twice {l : List Nat} {a b : Nat} (ha : a < l.length) (hb : b < l.length) : swapL (swapL l a b) a b = l := by
  apply List.ext_getElem
  · simp [swapL]
  · intro i h1 h2
    unfold swapL
    simp only [List.getD_eq_getElem?_getD, List.getElem_set, List.getElem?_set, List.length_set, ha, hb, if_true, List.getElem?_eq_getElem ha, List.getElem?_eq_getElem hb, Option.getD_some]
    by_cases hbi : b = i <;> by_cases hai : a = i <;> simp_all <;> (rw [if_neg (fun h => hai h.symm)]; rfl)

set_option maxRecDepth 100000 in
set_option maxHeartbeats 4000000 in
theorem from_in (F : Fence) (h7 : F.fn 103) (hro : F.round = none) (n bn B lo n0 m0 : Nat) (hn7 : n ≤ 7) (hbn : bn < B) (hn0 : n0 ≤ bn) (J : List (List Nat) → World → Prop)
    (hJ : ∀ pre X X', Below B X X' → J pre X → J pre X')
    (M : Nat) (hY : ∀ m, m0 ≤ m → ∀ pre x v X, pre.length < M → B ≤ X.heap.size → J pre X → RowO n B x v X → YieldAt F m Try.prog lo #[v] X fun e X' =>
      e = .returned (.bool true) ∧ J (pre ++ [x]) X' ∧ X.heap.size ≤ X'.heap.size ∧ ∀ k, n0 ≤ k → k < X.heap.size → X'.heap[k]? = X.heap[k]?) :
    ∀ (left a : Nat) (l : List Nat) (pre : List (List Nat)) (X : World), pre.length + fct left ≤ M → a + left = n → l.length = n → (∀ i ∈ l, i < n) → B + 3 < X.heap.size → St n bn B lo X l → J pre X →
      CallsIn F (m0 + 1 + left) Try.prog 103 (#[.int .i64 a] ++ capsV bn B) X fun e X' =>
        e = .returned (.bool true) ∧ J (pre ++ pF left a l) X' ∧ X.heap.size ≤ X'.heap.size ∧ ∀ k, n0 ≤ k → k < X.heap.size → X'.heap[k]? = X.heap[k]? := by
  cases F
  cases hro
  have hro : (none : Option Nat) = none := rfl
  clear hro
  intro left
  induction left with
  | zero =>
    intro a l pre X hM hal hll hlb hsz hst hj
    have ha : a = n := by omega
    subst ha
    have c1 : X.cell? ⟨bn, 0, none⟩ = some (.int .i64 a) := cell_of hst.nb rfl
    have c2 : X.cell? ⟨B, 0, none⟩ = some (.func (.yield lo) #[] #[]) := cell_of hst.yb rfl
    have c3 : X.cell? ⟨B + 2, 0, none⟩ = some (.slice (some ⟨B + 1, 0, none⟩) a a) := cell_of hst.hb rfl
    obtain ⟨fn, tmps, assign, body, hy, hR⟩ := hY m0 (Nat.le_refl _) pre l _ X (by have h1 : fct 0 = 1 := rfl; omega) (by omega) hj ⟨rfl, hst.rb, hll, hlb⟩
    have hn : 1 ≤ m0 + 1 + 0 := by omega
    unfold capsV
    refine callsIn_of_wp Try.func103 rfl h7 ?_ rfl
    simp only [Try.ntmps103, List.size_toArray, List.length_cons, List.length_nil, Nat.reduceAdd, Nat.reduceSub, Array.replicate_succ, Array.replicate_zero, List.push_toArray, List.append_toArray, List.nil_append, List.cons_append]
    clear hst hJ hY
    gi_wp2
    refine hR.mono ?_
    rintro e W3 ⟨rfl, h1, h2, h3⟩
    gi_wp2
    refine bodyPost_ret (v := .bool true) (by simp [results, Try.results103, go_sem]) rfl ?_
    exact ⟨rfl, h1, h2, h3⟩
  | succ left ih =>
    intro a l pre X hM hal hll hlb hsz hst hj
    have c1 : X.cell? ⟨bn, 0, none⟩ = some (.int .i64 n) := cell_of hst.nb rfl
    have hne : ((a : Int) == (n : Int)) = false := by rw [beq_eq_false_iff_ne]; omega
    have hn : 1 ≤ m0 + 1 + (left + 1) := by omega
    have HST := Lib.hid hst
    have HJ := Lib.hid hj
    have IH := Lib.hid ih
    have HJJ := Lib.hid hJ
    have HM := Lib.hid (show ∀ d, d < left + 1 → (pre ++ (List.range d).flatMap fun d => pF left (a + 1) (swapL l a (a + d))).length + fct left ≤ M from fun d hd => by
      rw [List.length_append, pF_part]
      have h1 : fct (left + 1) = (left + 1) * fct left := rfl
      have h2 : (d + 1) * fct left ≤ (left + 1) * fct left := Nat.mul_le_mul_right _ (by omega)
      rw [Nat.add_mul d 1, Nat.one_mul] at h2
      omega)
    clear hM
    unfold capsV
    refine callsIn_of_wp Try.func103 rfl h7 ?_ rfl
    simp only [Try.ntmps103, List.size_toArray, List.length_cons, List.length_nil, Nat.reduceAdd, Nat.reduceSub, Array.replicate_succ, Array.replicate_zero, List.push_toArray, List.append_toArray, List.nil_append, List.cons_append]
    clear hst hJ hY hj ih
    gi_wp2
    gi_loopw [7] (fun iv wr => ∃ d : Nat, d ≤ left + 1 ∧ iv = .int .i64 ((a + d : Nat) : Int) ∧ J (pre ++ (List.range d).flatMap fun d => pF left (a + 1) (swapL l a (a + d))) wr ∧ St n bn B lo wr l ∧ X.heap.size ≤ wr.heap.size ∧ ∀ k, n0 ≤ k → k < X.heap.size → wr.heap[k]? = X.heap[k]?) (fun iv _ => n - (intOf iv).toNat)
    case atStart => exact ⟨0, by omega, by simp, by simpa using HJ.out, HST.out, Nat.le_refl _, fun _ _ _ => rfl⟩
    case round =>
      obtain ⟨d, hd, rfl, hj2, hst2, hs2, hk2⟩ := hrel
      have c1w : wr.cell? ⟨bn, 0, none⟩ = some (.int .i64 n) := cell_of hst2.nb rfl
      by_cases hlt : d < left + 1
      · have hlt' : ((a + d : Nat) : Int) < (n : Int) := by omega
        have c3 : wr.cell? ⟨B + 2, 0, none⟩ = some (.slice (some ⟨B + 1, 0, none⟩) n n) := cell_of hst2.hb rfl
        have ra := hst2.cell (j := a) (by omega)
        have rd := hst2.cell (j := a + d) (by omega)
        have fa := hst2.frozen a
        have fd := hst2.frozen (a + d)
        have st1 := hst2.set hbn a (l.getD (a + d) 0)
        have rd1 := st1.cell (j := a + d) (by rw [List.length_set]; omega)
        have fd1 := st1.frozen (a + d)
        have S3 := Lib.hid ((hst2.set hbn a (l.getD (a + d) 0)).set hbn (a + d) (l.getD a 0))
        have HS2 := Lib.hid hst2
        have HJ2 := Lib.hid hj2
        have HK2 := Lib.hid hk2
        clear hst2 hj2 hk2 st1
        have GX := Lib.hid (show l.getD (a + d) 0 = l.getD (a + d) 0 ∧ l.getD a 0 = l.getD a 0 from ⟨rfl, rfl⟩)
        generalize (l.set a (l.getD (a + d) 0)).getD (a + d) 0 = z at *
        generalize hy : l.getD (a + d) 0 = y at ra rd S3 rd1 fd1
        generalize hx : l.getD a 0 = x at ra rd S3 rd1 fd1
        have HXY := Lib.hid (And.intro hx hy)
        have c4 := cell_of S3.out.fb (j := 0) rfl
        clear hx hy
        gi_wp2
        gi_region
        all_goals gi_wp2
        as_aux_lemma =>
          obtain ⟨WD, hWD⟩ : ∃ WD, WD = (((wr.setCell ⟨B + 1, a, none⟩ (.int .i64 y)).setCell ⟨B + 1, a + d, none⟩ (.int .i64 x))).drew := ⟨_, rfl⟩
          have SW : swapL l a (a + d) = (l.set a y).set (a + d) x := by unfold swapL; rw [HXY.out.1, HXY.out.2]
          have SD : St n bn B lo WD (swapL l a (a + d)) := by rw [hWD, SW]; exact S3.out.drew
          have BD : Below B wr WD := by
            rw [hWD]
            repeat (first | assumption | exact Below.refl _ _ | refine Below.setCell ?_ (by first | omega | (simp; done) | (simp; omega)) _ | refine Below.drew ?_ | refine Below.alloc ?_ (by first | omega | (simp; done) | (simp; omega)) _)
          have KD : ∀ k, k ≠ B + 1 → WD.heap[k]? = wr.heap[k]? := fun k hk => by
            rw [hWD]
            exact (Below.heap_setCell _ _ _ _ hk).trans (Below.heap_setCell _ _ _ _ hk)
          have ZD : WD.heap.size = wr.heap.size := by rw [hWD]; show ((wr.setCell _ _).setCell _ _).heap.size = _; rw [World.size_setCell, World.size_setCell]
          have C := IH.out (a + 1) (swapL l a (a + d)) _ WD (HM.out d hlt) (by omega) (by rw [SW]; simp [hll]) (fun i hi => by
            rw [SW] at hi
            have hy := HXY.out.2
            have hx := HXY.out.1
            have gy : y < n := by rw [← hy, List.getD_eq_getElem?_getD, List.getElem?_eq_getElem (by omega)]; exact hlb _ (List.getElem_mem _)
            have gx : x < n := by rw [← hx, List.getD_eq_getElem?_getD, List.getElem?_eq_getElem (by omega)]; exact hlb _ (List.getElem_mem _)
            rcases List.mem_or_eq_of_mem_set hi with h | rfl
            · rcases List.mem_or_eq_of_mem_set h with h | rfl
              · exact hlb _ h
              · exact gy
            · exact gx) (by rw [ZD]; omega) SD (HJJ.out _ _ _ BD HJ2.out)
          simp only [Int.natCast_add, Int.natCast_one] at C
          have HSD := Lib.hid SD
          have HBD := Lib.hid BD
          have HKD := Lib.hid KD
          have HZD := Lib.hid ZD
          rw [← hWD]
          clear hWD SW SD BD KD ZD S3 HJ2 c4 ra rd rd1 fa fd fd1 c3 c1w
          refine ⟨h7, C.mono ?_⟩
          rintro e W4 ⟨rfl, hj4, hs4, hk4⟩
          rw [show (pre ++ (List.range d).flatMap fun d => pF left (a + 1) (swapL l a (a + d))) ++ pF left (a + 1) (swapL l a (a + d)) = pre ++ (List.range (d + 1)).flatMap fun d => pF left (a + 1) (swapL l a (a + d)) by
            rw [List.range_succ, List.flatMap_append]; simp] at hj4
          have S4 := HSD.out.keep hn0 hbn hk4
          have LL := Lib.hid (show (swapL l a (a + d)).length = n by simp [swapL, hll])
          have TW := Lib.hid (swapL_twice (l := l) (a := a) (b := a + d) (by omega) (by omega))
          generalize swapL l a (a + d) = l2 at *
          have c1w : W4.cell? ⟨bn, 0, none⟩ = some (.int .i64 n) := cell_of S4.nb rfl
          have c3 : W4.cell? ⟨B + 2, 0, none⟩ = some (.slice (some ⟨B + 1, 0, none⟩) n n) := cell_of S4.hb rfl
          have ra := S4.cell (j := a) (by rw [LL.out]; omega)
          have rd := S4.cell (j := a + d) (by rw [LL.out]; omega)
          have fa := S4.frozen a
          have fd := S4.frozen (a + d)
          have st1 := S4.set hbn a (l2.getD (a + d) 0)
          have fd1 := st1.frozen (a + d)
          have rd1 := st1.cell (j := a + d) (by rw [List.length_set, LL.out]; omega)
          have S5 := Lib.hid (show St n bn B lo (((W4.setCell ⟨B + 1, a, none⟩ (.int .i64 (l2.getD (a + d) 0 : Nat))).setCell ⟨B + 1, a + d, none⟩ (.int .i64 (l2.getD a 0 : Nat))).drew) l by
            have h := (st1.set hbn (a + d) (l2.getD a 0)).drew
            have e : (l2.set a (l2.getD (a + d) 0)).set (a + d) (l2.getD a 0) = l := TW.out
            rwa [e] at h)
          have HJ4 := Lib.hid hj4
          have HK4 := Lib.hid hk4
          have HS4 := Lib.hid hs4
          clear S4 hj4 hk4 hs4 st1 C
          generalize (l2.set a (l2.getD (a + d) 0)).getD (a + d) 0 = z2 at *
          generalize l2.getD (a + d) 0 = q at *
          generalize l2.getD a 0 = p at *
          gi_wp2
          gi_region
          as_aux_lemma =>
            gi_wp2
            obtain ⟨WE, hWE⟩ : ∃ WE, WE = (((W4.setCell ⟨B + 1, a, none⟩ (.int .i64 q)).setCell ⟨B + 1, a + d, none⟩ (.int .i64 p))).drew := ⟨_, rfl⟩
            have BE : Below B W4 WE := by
              rw [hWE]
              repeat (first | assumption | exact Below.refl _ _ | refine Below.setCell ?_ (by first | omega | (simp; done) | (simp; omega)) _ | refine Below.drew ?_ | refine Below.alloc ?_ (by first | omega | (simp; done) | (simp; omega)) _)
            have KE : ∀ k, k ≠ B + 1 → WE.heap[k]? = W4.heap[k]? := fun k hk => by
              rw [hWE]
              exact (Below.heap_setCell _ _ _ _ hk).trans (Below.heap_setCell _ _ _ _ hk)
            have ZE : WE.heap.size = W4.heap.size := by rw [hWE]; show ((W4.setCell _ _).setCell _ _).heap.size = _; rw [World.size_setCell, World.size_setCell]
            have SE := S5.out
            rw [← hWE] at SE
            rw [← hWE]
            have h4 := HS4.out
            have hz := HZD.out
            refine ⟨⟨d + 1, by omega, by go_num, HJJ.out _ _ _ BE HJ4.out, SE, by omega, fun k h0 hk => ?_⟩, by simp [intOf]; omega⟩
            by_cases hkb : k = B + 1
            · subst hkb
              exact SE.rb.trans HST.out.rb.symm
            · exact (KE k hkb).trans ((HK4.out k h0 (by omega)).trans ((HKD.out k hkb).trans (HK2.out k h0 hk)))
      · have e : d = left + 1 := by omega
        subst e
        have hJ2 := Lib.hid hj2
        have HK2 := Lib.hid hk2
        clear hj2 hk2 hst2
        have hge : ¬ (((a + (left + 1) : Nat) : Int) < (n : Int)) := by omega
        gi_wp2
        refine bodyPost_ret (v := .bool true) (by simp [results, Try.results103, go_sem]) rfl ?_
        exact ⟨rfl, hJ2.out, hs2, HK2.out⟩

end Go.Proofs.Ytaakefjblldccaa
