/- Texts of this claim, laid together: Sl. -/
import Derived.Test.YtdfkaijeppdhaaaGreatDoorZHq01
import Derived.Test.YtdfkaijeppdhaaaGreatDoorZHq14
import Derived.Test.YtdfkaijeppdhaaaGreatDoorZHq06
import Derived.RangeFuncBox
import Derived.RangeFuncNested
import Derived.RangeFuncLeaves
import Derived.Shelf.Abstract
import Derived.WalkKit
import Derived.OwnWalkIn
import Derived.TacticsInMore
import Derived.LoopNIn
import Derived.LoopIn
import Derived.KernelRfl
import Derived.Lib.Hide

/- Contract: strings.Lines. -/
namespace Go.Proofs.YtdfkaijeppdhaaaGreatDoor
open Go.RowKit Go.Shelf
attribute [local go_sem] Oper.semAt_some
/-- The lines of a list of bytes, each with its line feed. -/
def rawL : List UInt8 → List (List UInt8)
  | [] => []
  | b :: r => if b == 10 then [b] :: rawL r else match rawL r with
    | [] => [[b]]
    | x :: xs => (b :: x) :: xs
theorem rawL_idx : ∀ l : List UInt8, l ≠ [] → (Lib.indexByte l 10 = -1 ∧ rawL l = [l]) ∨ (∃ i : Nat, Lib.indexByte l 10 = i ∧ i < l.length ∧ rawL l = l.take (i + 1) :: rawL (l.drop (i + 1)))
  | [], h => absurd rfl h
  | b :: r, _ => by
    by_cases h : b = 10
    · subst h
      exact .inr ⟨0, by simp [Lib.indexByte], by simp, by simp [rawL]⟩
    · have hb : (b == 10) = false := by simpa using h
      have hc : rawL (b :: r) = match rawL r with | [] => [[b]] | x :: xs => (b :: x) :: xs := by simp [rawL, hb]
      by_cases hr : r = []
      · subst hr
        exact .inl ⟨by simp [Lib.indexByte, hb], by simp [rawL, hb]⟩
      · rcases rawL_idx r hr with ⟨h1, h2⟩ | ⟨i, h1, h2, h3⟩
        · exact .inl ⟨by simp [Lib.indexByte, hb, h1], by rw [hc, h2]⟩
        · refine .inr ⟨i + 1, ?_, by simp [h2], ?_⟩
          · unfold Lib.indexByte
            rw [hb, h1]
            have : ((i : Int) == -1) = false := by simp
            simp [this]
          · rw [hc, h3]
            simp
/-- A line without its line feed. -/
def trimL (x : List UInt8) : List UInt8 := Lib.trimSuffix x [10]
theorem trimL_feed (x : List UInt8) : trimL (x ++ [10]) = x := by unfold trimL Lib.trimSuffix Lib.hasSuffix; simp
theorem rawL_ne : ∀ (l x : List UInt8), x ∈ rawL l → x ≠ []
  | [], x, h => by simp [rawL] at h
  | b :: r, x, h => by
    unfold rawL at h
    split at h
    · rcases List.mem_cons.1 h with rfl | h
      · simp
      · exact rawL_ne r x h
    · split at h
      · simp at h; subst h; simp
      · rename_i y ys he
        rcases List.mem_cons.1 h with rfl | h
        · simp
        · exact rawL_ne r x (by rw [he]; simp [h])
theorem trimL_snoc (z : List UInt8) (c : UInt8) (h : ¬ c = 10) : trimL (z ++ [c]) = z ++ [c] := by
  unfold trimL Lib.trimSuffix Lib.hasSuffix
  have h2 : ¬ (10 : UInt8) = c := fun e => h e.symm
  simp [h, h2]
theorem trimL_cons (b : UInt8) (x : List UInt8) (hx : x ≠ []) : trimL (b :: x) = b :: trimL x := by
  obtain ⟨y, c, rfl⟩ : ∃ y c, x = y ++ [c] := ⟨x.dropLast, x.getLast hx, (List.dropLast_concat_getLast hx).symm⟩
  by_cases h : c = 10
  · subst h
    rw [trimL_feed, ← List.cons_append, trimL_feed]
  · rw [trimL_snoc _ _ h, ← List.cons_append, trimL_snoc _ _ h]
theorem trim_lines : ∀ l : List UInt8, (rawL l).map trimL = linesC l
  | [] => rfl
  | b :: r => by
    have ih := trim_lines r
    by_cases h : (b == 10) = true
    · have hb : b = 10 := by simpa using h
      subst hb
      simp only [rawL, linesC, h, if_true, List.map_cons, ih]
      rw [show trimL [10] = [] from trimL_feed []]
    · have hb : (b == 10) = false := by simpa using h
      have hb2 : ¬ b = 10 := by simpa using h
      simp only [rawL, linesC, hb, Bool.false_eq_true, if_false]
      cases hr : rawL r with
      | nil =>
        rw [hr] at ih
        rw [← ih]
        have : trimL [b] = [b] := trimL_snoc [] b hb2
        simp [this]
      | cons x xs =>
        rw [hr] at ih
        have hx : x ≠ [] := rawL_ne r x (by rw [hr]; simp)
        rw [← ih]
        simp only [List.map_cons, trimL_cons b x hx]
/-- The lines of a string. -/
def linesA (s : ByteArray) : List ByteArray := (rawL s.data.toList).map bsB
theorem linesA_idx (s : ByteArray) (h : 0 < s.size) : (Lib.indexByte s.data.toList 10 = -1 ∧ linesA s = [s]) ∨
    (∃ i : Nat, Lib.indexByte s.data.toList 10 = i ∧ i < s.size ∧ linesA s = s.extract 0 (i + 1) :: linesA (s.extract (i + 1) s.size)) := by
  rcases rawL_idx s.data.toList (by intro e; have h9 := ba_size s; rw [e] at h9; have h8 : s.size = 0 := h9; omega) with ⟨h1, h2⟩ | ⟨i, h1, h2, h3⟩
  · refine .inl ⟨h1, ?_⟩
    unfold linesA
    rw [h2]
    simp [bsB_of]
  · refine .inr ⟨i, h1, by rw [ba_size]; exact h2, ?_⟩
    unfold linesA
    rw [h3, ba_take, ba_drop]
    simp [bsB]
theorem linesA_nil {s : ByteArray} (h : s.size = 0) : linesA s = [] := by
  have : s.data.toList = [] := List.length_eq_zero_iff.1 (by rw [← ba_size]; exact h)
  unfold linesA
  rw [this]; rfl

/-- The block of the iterator: the string that is left. -/
def LnAt (bs : Nat) (s : ByteArray) (X : World) : Prop := X.heap[bs]? = some (.cells #[.string s] 9 (0, 0))
def lnS (bs : Nat) (k : Nat) : Prop := k = bs
theorem LnAt.set {bs : Nat} {s : ByteArray} {X : World} (h : LnAt bs s X) (t : ByteArray) : LnAt bs t (X.setCell ⟨bs, 0, none⟩ (.string t)) := by
  obtain ⟨hlt, hk⟩ := Array.getElem?_eq_some_iff.1 h
  show (X.heap.modify bs _)[bs]? = _
  rw [Array.getElem?_eq_getElem (by rw [Array.size_modify]; exact hlt), Array.getElem_modify_self, hk]
  simp
/-- How many bytes are left. -/
def lnLeft (bs : Nat) (X : World) : Nat := match X.heap[bs]? with
  | some (Obj.cells A _ _) => match A[0]? with
    | some (Value.string s) => s.size
    | _ => 0
  | _ => 0
theorem lnLeft_eq {bs : Nat} {s : ByteArray} {X : World} (h : LnAt bs s X) : lnLeft bs X = s.size := by
  unfold lnLeft; rw [h]; rfl
theorem pre_snoc {α : Type} (p : List α) (x : α) (r : List α) : p ++ [x] <+: p ++ x :: r := ⟨r, by simp⟩
set_option maxRecDepth 100000 in
set_option maxHeartbeats 4000000 in
theorem lines1_in (n : Nat) (hn : 1 ≤ n) (bs : Nat) (s : ByteArray) (hs : s.size ≤ 9223372036854775806) :
    SeqOwn Fence.wide n Tryz.prog 125 #[.pointer (some ⟨bs, 0, none⟩)] Value.string (lnS bs) (lnS bs) (LnAt bs s) (linesA s) := by
  intro l J Jx W hJ hY hSt h0
  obtain ⟨xs, hxs⟩ : ∃ xs, xs = linesA s := ⟨_, rfl⟩
  rw [← hxs] at hY ⊢
  refine callsIn_of_wp Tryz.func125 rfl trivial ?_ rfl
  simp only [Tryz.ntmps125, List.size_toArray, List.length_cons, List.length_nil, Nat.reduceAdd, Nat.reduceSub, Array.replicate_succ, Array.replicate_zero, List.push_toArray, List.append_toArray, List.nil_append, List.cons_append]
  have HST := Lib.hid hSt
  have H0 := Lib.hid h0
  have HXS := Lib.hid hxs
  have HY := Lib.hid hY
  have HJ := Lib.hid hJ
  clear hSt h0 hxs hY hJ
  gi_wp2
  gi_loopw [3, 4] (fun i f wr => ∃ (pre : List ByteArray) (r : ByteArray), r.size ≤ s.size ∧ Hid (xs = pre ++ linesA r) ∧ Hid (J pre wr) ∧ Hid (LnAt bs r wr)) (fun _ _ wr => lnLeft bs wr)
  case atStart => exact ⟨[], s, Nat.le_refl _, HXS, H0, HST⟩
  case round =>
    obtain ⟨pre, r, hr, hx, hj, hst⟩ := hrel
    have d2 : wr.cell? ⟨bs, 0, none⟩ = some (.string r) := heap_cell hst.out rfl
    have d4 : wr.frozen? ⟨bs, 0, none⟩ = false := by have h9 := hst.out; unfold LnAt at h9; simp [World.frozen?, h9]
    by_cases hz : r.size = 0
    · have hlt0 : ¬ (0 : Int) < (r.size : Int) := by omega
      have HE : Hid (xs = pre) := Lib.hid (by rw [hx.out, linesA_nil hz, List.append_nil])
      gi_wp2
      go_end0
      exact ⟨⟨_, rfl⟩, .inl (by rw [HE.out]; exact hj.out)⟩
    · have hlt0 : (0 : Int) < (r.size : Int) := by omega
      rcases linesA_idx r (by omega) with ⟨hi, he⟩ | ⟨i, hi, hlt, he⟩
      · gi_wp2_with fail
        refine ⟨trivial, callsIn_wide.2 ((Tryz.strings_IndexByte r 10 wr).mono ?_)⟩
        rintro e w' ⟨rfl, rfl⟩
        rw [show (Int.toNat 10).toUInt8 = (10 : UInt8) from rfl, hi]
        have HJ2 := Lib.hid (HJ.out _ _ (w'.setCell ⟨bs, 0, none⟩ (.string ⟨#[]⟩)) (turned_setCell _ _ _ _ rfl) hj.out)
        obtain ⟨fn, tmps, assign, body, hy, hR⟩ := HY.out pre r (w'.setCell ⟨bs, 0, none⟩ (.string ⟨#[]⟩)) (by rw [hx.out, he]; exact List.prefix_refl _) HJ2.out
        gi_wp2
        refine hR.mono ?_
        rintro e W3 (⟨rfl, hJ3, hk3⟩ | ⟨rfl, hJx3⟩)
        · have hst3 : LnAt bs ⟨#[]⟩ W3 := (hk3 _ rfl).trans (hst.out.set ⟨#[]⟩)
          have d2 : W3.cell? ⟨bs, 0, none⟩ = some (.string ⟨#[]⟩) := heap_cell hst3 rfl
          gi_wp2
          go_roundw
          case rel => exact ⟨pre ++ [r], ⟨#[]⟩, Nat.zero_le _, Lib.hid (by rw [hx.out, he, linesA_nil (by rfl)]; simp), Lib.hid hJ3, Lib.hid hst3⟩
          case measure => rw [lnLeft_eq hst3, lnLeft_eq hst.out]; show 0 < _; omega
        · gi_wp2
          refine bodyPost_ret (results_none rfl _ _ _) rfl ?_
          exact ⟨⟨_, rfl⟩, .inr ⟨_, by rw [hx.out, he]; exact List.prefix_refl _, hJx3⟩⟩
      · gi_wp2_with fail
        refine ⟨trivial, callsIn_wide.2 ((Tryz.strings_IndexByte r 10 wr).mono ?_)⟩
        rintro e w' ⟨rfl, rfl⟩
        rw [show (Int.toNat 10).toUInt8 = (10 : UInt8) from rfl, hi]
        have HJ2 := Lib.hid (HJ.out _ _ ((w'.setCell ⟨bs, 0, none⟩ (.string (r.extract (i + 1) r.size))).drew) ((turned_setCell (S := lnS bs) _ _ _ _ rfl).trans (turned_drew _)) hj.out)
        obtain ⟨fn, tmps, assign, body, hy, hR⟩ := HY.out pre (r.extract 0 (i + 1)) ((w'.setCell ⟨bs, 0, none⟩ (.string (r.extract (i + 1) r.size))).drew) (by rw [hx.out, he]; exact pre_snoc _ _ _) HJ2.out
        gi_wp2
        gi_region
        gi_wp2
        refine hR.mono ?_
        rintro e W3 (⟨rfl, hJ3, hk3⟩ | ⟨rfl, hJx3⟩)
        · have hst3 : LnAt bs (r.extract (i + 1) r.size) W3 := (hk3 _ rfl).trans (LnAt.set hst.out _)
          have d2 : W3.cell? ⟨bs, 0, none⟩ = some (.string (r.extract (i + 1) r.size)) := heap_cell hst3 rfl
          gi_wp2
          go_roundw
          case rel => exact ⟨pre ++ [r.extract 0 (i + 1)], r.extract (i + 1) r.size, by simp; omega, Lib.hid (by rw [hx.out, he]; simp), Lib.hid hJ3, Lib.hid hst3⟩
          case measure => rw [lnLeft_eq hst3, lnLeft_eq hst.out]; simp; omega
        · gi_wp2
          refine bodyPost_ret (results_none rfl _ _ _) rfl ?_
          exact ⟨⟨_, rfl⟩, .inr ⟨_, by rw [hx.out, he]; exact pre_snoc _ _ _, hJx3⟩⟩

set_option maxHeartbeats 1000000 in
/-- strings.Lines: the closure over a new block. -/
theorem lines_any (s : ByteArray) (w : World) :
    Calls Tryz.prog 98 #[.string s] w fun e w' => e = .returned (.func (.func 125) #[] #[.pointer (some ⟨w.heap.size, 0, none⟩)]) ∧
      w' = w.alloc (.cells #[.string s] 9) := by
  go_enter Tryz.func98, Tryz.ntmps98
  go_wp2
  go_ret
  exact ⟨rfl, rfl⟩
theorem lnAt_new (s : ByteArray) (w : World) : LnAt w.heap.size s (w.alloc (.cells #[.string s] 9)) := World.alloc_heap_new w _
theorem LnAt.below {bs : Nat} {s : ByteArray} {X X' : World} (h : LnAt bs s X) (hb : Below X.heap.size X X') : LnAt bs s X' :=
  (hb.block _ (Array.getElem?_eq_some_iff.1 h).1).trans h
end Go.Proofs.YtdfkaijeppdhaaaGreatDoor
