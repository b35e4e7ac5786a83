/- Contract: slices.Replace of one element by two, of a slice of ints of one's own. -/
import Derived.Test.YtaakefjblldccaaMo
import Derived.Test.YtaakefjblldccaaTx
import Derived.Laws.CopyOwn
import Derived.Lib.Overlaps
import Derived.Lib.AppendZerosOnto
import Derived.RangeFuncBox
import Derived.Deep.Slices
import Derived.Shelf.Slices.Clone
namespace Go.Proofs.Ytaakefjblldccaa
open Go.RowKit Go.Shelf

/-- Two in the place of one. -/
def twoC (c : List Int) (k : Nat) (x y : Int) : List Int := c.take k ++ x :: y :: c.drop (k + 1)
theorem twoC_len {c : List Int} {k : Nat} {x y : Int} (h : k < c.length) : (twoC c k x y).length = c.length + 1 := by
  unfold twoC; simp; omega

theorem splice_a {cur C D V : List Value} {k m : Nat} (hcur : cur.take (k + 1 + m) = C) (hl : k + 2 + m ≤ cur.length) (hD : D.length = m) (hV : V.length = 2) :
    (splice (splice cur (k + 2) D) k V).take (k + 2 + m) = C.take k ++ V ++ D := by
  have e1 : cur.take k = C.take k := by rw [← hcur, List.take_take]; congr 1; omega
  unfold splice
  have e2 : (cur.take (k + 2) ++ (D ++ cur.drop (k + 2 + D.length))).take k = C.take k := by
    rw [List.take_append_of_le_length (by rw [List.length_take]; omega), List.take_take, ← e1]; congr 1; omega
  have e3 : (cur.take (k + 2) ++ (D ++ cur.drop (k + 2 + D.length))).drop (k + V.length) = D ++ cur.drop (k + 2 + D.length) := by
    rw [List.drop_append_of_le_length (by rw [List.length_take]; omega), List.drop_eq_nil_of_le (by rw [List.length_take]; omega), List.nil_append]
  have hCk : (C.take k).length = k := by rw [← e1, List.length_take]; omega
  rw [e2, e3, ← List.append_assoc, ← List.append_assoc]
  exact List.take_left' (by simp [hCk]; omega)
theorem splice_b {cur C D V : List Value} {k m : Nat} (hcur : cur.take k = C.take k) (hk : k ≤ C.length) (hl : k + 2 + m ≤ cur.length) (hD : D.length = m) (hV : V.length = 2) :
    (splice (splice cur k V) (k + 2) D).take (k + 2 + m) = C.take k ++ V ++ D := by
  have hCk : (C.take k).length = k := by rw [List.length_take]; omega
  unfold splice
  have e2 : (cur.take k ++ (V ++ cur.drop (k + V.length))).take (k + 2) = C.take k ++ V := by
    rw [← List.append_assoc, hcur]
    exact List.take_left' (by simp [hCk]; omega)
  rw [e2, ← List.append_assoc]
  exact List.take_left' (by simp [hCk]; omega)

theorem map_two (c : List Int) (k : Nat) (x y : Int) : (twoC c k x y).map (Value.int .i64) = (c.map (Value.int .i64)).take k ++ [.int .i64 x, .int .i64 y] ++ (c.drop (k + 1)).map (Value.int .i64) := by
  unfold twoC; simp [List.map_take]

theorem row_parts {W : World} {B g n cap sz : Nat} {e : TypeId} {xs : List Value} (h : W.ownsRow B e sz (.slice (some ⟨g, 0, none⟩) n cap) n xs) : ∃ cur : List Value, B ≤ g ∧ W.heap[g]? = some (.cells cur.toArray e (0, 0)) ∧ n ≤ cap ∧ cap ≤ maxLen ∧ cur.length = cap * sz ∧ cur.take (n * sz) = xs := by
  rcases h.2 with ⟨h1, _⟩ | ⟨g', cap', cur, h1, h2, h3, h4, h5, h6, h7⟩
  · cases h1
  · simp only [Value.slice.injEq, Option.some.injEq, Addr.mk.injEq] at h1
    obtain ⟨⟨rfl, -⟩, -, rfl⟩ := h1
    exact ⟨cur.toList, h2, by simpa using h3, h4, h5, by simpa using h6, h7⟩

def GivesTwo (B : Nat) (l : List Int) (w : World) (e : Ending) (w' : World) : Prop :=
  ∃ g cap, e = .returned (.slice (some ⟨g, 0, none⟩) l.length cap) ∧ OwnIr B w' g cap l ∧ Below B w w'

set_option maxRecDepth 100000 in
set_option maxHeartbeats 4000000 in
/-- At the end: an append. -/
theorem replace_end {B g cap k vb vc : Nat} {c : List Int} {x y : Int} {w : World} (HO : OwnIr B w g cap c) (hk : k + 1 = c.length) (h7 : c.length ≤ 7) (hB : B ≤ w.heap.size) (hv : w.heap[vb]? = some (.cells #[.int .i64 x, .int .i64 y] 3 (0, 0))) :
    Calls Try.prog 88 #[.slice (some ⟨g, 0, none⟩) c.length cap, .int .i64 k, .int .i64 ((k : Int) + 1), .slice (some ⟨vb, 0, none⟩) 2 vc] w (GivesTwo B (twoC c k x y) w) := by
  have hlen := twoC_len (x := x) (y := y) (show k < c.length by omega)
  have hmap := map_two c k x y
  have HL := Lib.hid hlen
  have HM := Lib.hid (show (c.map (Value.int .i64)).take k ++ [.int .i64 x, .int .i64 y] = (twoC c k x y).map (Value.int .i64) by rw [hmap, List.drop_eq_nil_of_le (by omega)]; simp)
  obtain ⟨cur, hg, hh, hnc, hcm, hcl, hct⟩ := row_parts HO.row
  have HR := Lib.hid (show w.ownsRow B 3 1 (.slice (some ⟨g, 0, none⟩) k cap) k ((c.map (Value.int .i64)).take k) from
    ⟨by simp; omega, .inr ⟨g, cap, cur.toArray, rfl, hg, hh, by omega, hcm, by simpa using hcl, by
      rw [← hct]; simp [List.take_take]; omega⟩⟩)
  have HG := Lib.hid hg
  have HNC := Lib.hid hnc
  have hv0 := Lib.hid (show w.cell? ⟨vb, 0, none⟩ = some (.int .i64 x) by simp [World.cell?, hv])
  have hv1 := Lib.hid (show w.cell? ⟨vb, 1, none⟩ = some (.int .i64 y) by simp [World.cell?, hv])
  obtain ⟨j0, hj0, hy0, hy1, hy2⟩ := info_parts Try.infoInt
  obtain ⟨n, rfl⟩ : ∃ n, n = k + 1 := ⟨_, rfl⟩
  have HK := Lib.hid hk
  have hcc : cap ≤ 9223372036854775807 := by unfold maxLen at hcm; omega
  rw [← hk] at h7 hnc ⊢
  unfold maxLen at hcm
  have a1 : (k : Int) ≤ (k : Int) + 1 := by omega
  have a2 : (k : Int) + 1 ≤ (cap : Int) := by omega
  have a3 : (0 : Int) ≤ (k : Int) + 1 := by omega
  have a4 : ((k : Int) + 1).toNat = k + 1 := by omega
  have a5 : (k : Int) ≤ (cap : Int) := by omega
  have b1 : ((k : Int) == (k : Int) + 1) = false := beq_eq_false_iff_ne.2 (by omega)
  clear hlen hmap hct hh hcl hv hk hg
  go_enter Try.func88, Try.ntmps88
  go_wp2_with (at_builtin; refine wpList_append_own _ rfl _ _ 29 rfl B 3 j0 (.int .i64 0) 1 8 Try.underlying29 hj0 hy0 hy1 hy2 rfl (by decide) _ _ _ rfl HR.out ⟨vb, 0, none⟩ 2 vc [.int .i64 x, .int .i64 y] rfl rfl ?qc2 ?qc3 ?qc4 ?qc5 ?qc6 ?_)
  case qc2 =>
    intro i u hi
    rcases i with _ | _ | i
    · simp at hi; rw [← hi]; exact hv0.out
    · simp at hi; rw [← hi]; exact hv1.out
    · simp at hi
  case qc3 => intro u hu; simp at hu; rcases hu with rfl | rfl <;> rfl
  case qc4 => unfold maxLen; omega
  case qc5 => omega
  case qc6 => exact hB
  intro v' w1 hown hgrow _
  obtain ⟨g', cap', rfl⟩ := ownsRow_succ hown
  have HO1 := Lib.hid hown
  have HB1 := Lib.hid ((Below.refl B w).grown hgrow hB (fun i e => by simp [Value.ownBlock] at e; rw [← e]; exact HG.out))
  clear hown hgrow
  go_wp2
  go_ret
  refine ⟨g', cap', by rw [HL.out, ← HK.out]; rfl, ⟨?_, ?_⟩, HB1.out⟩
  · rw [HL.out, ← HK.out]
    have h := HO1.out
    rw [HM.out] at h
    exact h
  · obtain ⟨_, h, _⟩ := row_parts HO1.out
    exact h

/-- The operation copy of a list, as a step of a region that draws its order or in the text's order. -/
theorem mapval_one (l : List Int) : ∀ v ∈ l.map (Value.int .i64), v.oneCell' = true := fun u hu => by obtain ⟨x, _, rfl⟩ := List.mem_map.1 hu; rfl
theorem intSize : (Try.prog.info? 3).map (·.size) = some 1 := by
  obtain ⟨j0, hj0, hy0, hy1, hy2⟩ := info_parts Try.infoInt
  rw [hj0]; simp [hy1]
theorem cells_at {w : World} {b : Nat} {cur : List Value} {t : TypeId} {fr : Nat × Nat} (h : w.heap[b]? = some (.cells cur.toArray t fr)) {j : Nat} {u : Value} (hu : cur[j]? = some u) : w.cell? ⟨b, j, none⟩ = some u := by
  simp [World.cell?, h, hu]

/-- A copy of cells into a row: as a step of a region that draws its order, and in the text's order. -/
theorem step_copyG {P : Program} {ops : Array Oper} {o : Oper} {a : Act} {w : World} {K : Act → World → Prop} {Q : Exit → Act → World → Prop} {E : Prop} (hgd : o.guard = none) (d s : Operand) (dT sT : TypeId)
    (ho : o.op = .call { callee := .builtin .copy, args := #[d, s], argTypes := #[dT, sT] }) (elem : TypeId) (hu : P.underlying dT = some (.slice elem)) (hsz : (P.info? elem).map (·.size) = some 1)
    (g off dLen dCap : Nat) (ad : Addr) (sLen sCap : Nat) (hd : a.eval d = .slice (some ⟨g, off, none⟩) dLen dCap) (hs : a.eval s = .slice (some ad) sLen sCap)
    (cur : List Value) (t : TypeId) (hg : w.heap[g]? = some (.cells cur.toArray t (0, 0))) (cs : List Value) (hn : cs.length = Nat.min sLen dLen)
    (hsrc : ∀ j v, cs[j]? = some v → w.cell? (ad.add j) = some v) (hfit : off + cs.length ≤ cur.length) (h1 : ∀ v ∈ cs, v.oneCell' = true) (B : Nat) (w0 : World) (hb : Below B w0 w) (hBg : B ≤ g)
    (h : ∀ w', Hid (w'.heap[g]? = some (.cells (splice cur off cs).toArray t (0, 0))) → Hid (∀ k, k ≠ g → w'.heap[k]? = w.heap[k]?) → Hid (Below B w0 w') → K (a.put o.dst (goInt cs.length)) w') :
    if Region.wanted o (yielded ops a.tmps) = true then Oper.wp P o a w K Q else E := by
  have hw : Region.wanted o (yielded ops a.tmps) = true := by simp [Region.wanted, hgd]
  rw [if_pos hw]
  have hrun := run_copy_row (P := P) w dT sT o.type elem g off dLen dCap ad sLen sCap cur.toArray t cs hu hsz hg hn hsrc (by simpa using hfit) h1
  unfold Oper.wp
  simp [execOp, ho, resolve, invoke, builtin, hd, hs, hrun, Result.andThen]
  exact h _ (show _ = _ by simpa [splice] using setRow_heap w g _ _ t _ hg) (fun k hk => setRow_other w g k _ hk) (show Below B w0 _ from below_setRow hb hBg _)
theorem wpList_copyG {P : Program} {w : World} {ops : Array Oper} {rest : List Oper} {o : Oper} {a : Act} {Q : Exit → Act → World → Prop} (hgd : o.guard = none) (d s : Operand) (dT sT : TypeId)
    (ho : o.op = .call { callee := .builtin .copy, args := #[d, s], argTypes := #[dT, sT] }) (elem : TypeId) (hu : P.underlying dT = some (.slice elem)) (hsz : (P.info? elem).map (·.size) = some 1)
    (g off dLen dCap : Nat) (ad : Addr) (sLen sCap : Nat) (hd : a.eval d = .slice (some ⟨g, off, none⟩) dLen dCap) (hs : a.eval s = .slice (some ad) sLen sCap)
    (cur : List Value) (t : TypeId) (hg : w.heap[g]? = some (.cells cur.toArray t (0, 0))) (cs : List Value) (hn : cs.length = Nat.min sLen dLen)
    (hsrc : ∀ j v, cs[j]? = some v → w.cell? (ad.add j) = some v) (hfit : off + cs.length ≤ cur.length) (h1 : ∀ v ∈ cs, v.oneCell' = true) (B : Nat) (w0 : World) (hb : Below B w0 w) (hBg : B ≤ g)
    (h : ∀ w', Hid (w'.heap[g]? = some (.cells (splice cur off cs).toArray t (0, 0))) → Hid (∀ k, k ≠ g → w'.heap[k]? = w.heap[k]?) → Hid (Below B w0 w') → wpList P ops Q rest (a.put o.dst (goInt cs.length)) w') :
    wpList P ops Q (o :: rest) a w := by
  refine wpList_copy_own hgd d s dT sT ho elem hu hsz g off dLen dCap ad sLen sCap hd hs cur.toArray t hg cs hn hsrc (by simpa using hfit) h1 ?_
  exact h _ (show _ = _ by simpa [splice] using setRow_heap w g _ _ t _ hg) (fun k hk => setRow_other w g k _ hk) (show Below B w0 _ from below_setRow hb hBg _)

theorem two_vals (x y : Int) : ∀ v ∈ [Value.int .i64 x, Value.int .i64 y], v.oneCell' = true := fun u hu => by simp at hu; rcases hu with rfl | rfl <;> rfl
theorem two_at {w : World} {vb : Nat} {x y : Int} (hv : w.heap[vb]? = some (.cells #[.int .i64 x, .int .i64 y] 3 (0, 0))) : ∀ j v, [Value.int .i64 x, Value.int .i64 y][j]? = some v → w.cell? ((⟨vb, 0, none⟩ : Addr).add j) = some v := fun j v hj => by
  rw [Addr.add_lit]
  rcases j with _ | _ | j
  · simp at hj; simp [World.cell?, hv, hj]
  · simp at hj; simp [World.cell?, hv, hj]
  · simp at hj

set_option maxRecDepth 100000 in
set_option maxHeartbeats 4000000 in
/-- In place. -/
theorem replace_room {B g cap k m vb vc : Nat} {c : List Int} {x y : Int} {w : World} (HO : OwnIr B w g cap c) (hk : c.length = k + 1 + m) (hm : 0 < m) (h7 : c.length ≤ 7) (hroom : c.length + 1 ≤ cap) (hB : B ≤ w.heap.size) (hv : w.heap[vb]? = some (.cells #[.int .i64 x, .int .i64 y] 3 (0, 0))) (hne : vb ≠ g) :
    Calls Try.prog 88 #[.slice (some ⟨g, 0, none⟩) c.length cap, .int .i64 k, .int .i64 ((k : Int) + 1), .slice (some ⟨vb, 0, none⟩) 2 vc] w (GivesTwo B (twoC c k x y) w) := by
  have hlen := twoC_len (x := x) (y := y) (show k < c.length by omega)
  obtain ⟨cur, hg, hh, hnc, hcm, hcl, hct⟩ := row_parts HO.row
  rw [Nat.mul_one] at hcl hct
  rw [hk] at hct
  have hD : ((c.drop (k + 1)).map (Value.int .i64)).length = m := by simp; omega
  have SP := Lib.hid (splice_a (D := (c.drop (k + 1)).map (Value.int .i64)) (V := [.int .i64 x, .int .i64 y]) (k := k) (m := m) hct (by omega) hD rfl)
  rw [← map_two c k x y] at SP
  have HDJ := Lib.hid (fun (j : Nat) (u : Value) (hj : ((c.drop (k + 1)).map (Value.int .i64))[j]? = some u) => show w.cell? ⟨g, k + 1 + j, none⟩ = some u from cells_at hh (by
    have h1 : (cur.take (k + 1 + m))[k + 1 + j]? = some u := by
      rw [hct, List.getElem?_map]
      rw [List.getElem?_map, List.getElem?_drop] at hj
      exact hj
    rw [List.getElem?_take] at h1
    split at h1
    · exact h1
    · cases h1))
  have HD := Lib.hid hD
  have hD1 := Lib.hid (mapval_one (c.drop (k + 1)))
  obtain ⟨D, hDe⟩ : ∃ D, D = (c.drop (k + 1)).map (Value.int .i64) := ⟨_, rfl⟩
  rw [← hDe] at SP HDJ HD hD1
  have HG := Lib.hid hg
  have HH := Lib.hid hh
  have HL := Lib.hid hlen
  have HCM := Lib.hid hcm
  have HCL := Lib.hid hcl
  have HK := Lib.hid hk
  have hv0 := Lib.hid (show w.cell? ⟨vb, 0, none⟩ = some (.int .i64 x) by simp [World.cell?, hv])
  have hv1 := Lib.hid (show w.cell? ⟨vb, 1, none⟩ = some (.int .i64 y) by simp [World.cell?, hv])
  have HV := Lib.hid hv
  have hcc : cap ≤ 9223372036854775807 := by unfold maxLen at hcm; omega
  have hov : ∀ W : World, W.heap = w.heap → ∀ lb cb, (callFunc 109 #[.slice (some ⟨g, k + 2, none⟩) lb cb, .slice (some ⟨vb, 0, none⟩) 2 vc]).run Try.prog W = .ok (.value (.bool false)) W := by
    intro W hW lb cb
    rw [run_callFunc_extern Try.func109 (by kernel_rfl) (by kernel_rfl) (by kernel_rfl) (e := Extern.SlicesOverlaps.overlaps #[29, 29] #[4]) (by kernel_rfl),
      Lib.run_overlaps_apart W 29 4 3 Try.underlying29 1 (by
        obtain ⟨j0, hj0, hy0, hy1, hy2⟩ := info_parts Try.infoInt
        intro w
        simp [sizeOf, typeInfo, hj0, hy1]) ⟨g, k + 2, none⟩ ⟨vb, 0, none⟩ lb cb 2 vc (Ne.symm hne) 3 3 cap 2 (by simp [World.shape?, hW, hh, hcl]) (by simp [World.shape?, hW, hv]) (by decide) (by simp [World.frozen?, hW, hh]) (by simp [World.frozen?, hW, hh])]
    rfl
  rw [hk] at h7 hroom ⊢
  clear hlen hct hh hcl hv hk hg hcm hD hDe
  have hov0 := Lib.hid hov
  clear hov
  have a1 : (k : Int) ≤ (k : Int) + 1 := by omega
  have a2 : (k : Int) + 1 ≤ (cap : Int) := by omega
  have a3 : (0 : Int) ≤ (k : Int) + 1 := by omega
  have a4 : ((k : Int) + 1).toNat = k + 1 := by omega
  have a5 : (k : Int) ≤ (cap : Int) := by omega
  have b1 : ((k : Int) == (k : Int) + 1) = false := beq_eq_false_iff_ne.2 (by omega)
  have b2 : ((k : Int) + 1 == (k : Int) + 1 + (m : Int)) = false := beq_eq_false_iff_ne.2 (by omega)
  go_enter Try.func88, Try.ntmps88
  go_wp2_with fail
  have e1 : IntKind.i64.wrap ((k : Int) + 2) = (k : Int) + 2 := IntWalk.i64_in _ (by omega)
  have e2 : IntKind.i64.wrap ((k : Int) + 2 + (m : Int)) = (k : Int) + 2 + (m : Int) := IntWalk.i64_in _ (by omega)
  have a6 : (k : Int) + 1 ≤ (k : Int) + 1 + (m : Int) := by omega
  have a7 : k + 1 + m - (k + 1) = m := by omega
  refine wp_region_held_drew (S := fun _ => True) (by kernel_rfl) trivial (fun hHeld => ?_)
  refine takeY (i := 0) rfl (by kernel_rfl) (by kernel_rfl) (by kernel_rfl) (fun _ _ _ _ h => h) (by rfl) hHeld ?_
  apply Exists.intro
  apply And.intro
  · intro W3 hS3
    go_simp
    try rfl
  try simp only [Act.put, List.getElem_toArray, List.getElem_cons_zero, List.getElem_cons_succ, List.setIfInBounds_toArray, List.set_cons_zero, List.set_cons_succ]
  refine takeY (i := 1) rfl (by kernel_rfl) (by kernel_rfl) (by kernel_rfl) (fun _ _ _ _ h => h) (by rfl) hHeld ?_
  apply Exists.intro
  apply And.intro
  · intro W3 hS3
    go_simp
    try rfl
  try simp only [Act.put, List.getElem_toArray, List.getElem_cons_zero, List.getElem_cons_succ, List.setIfInBounds_toArray, List.set_cons_zero, List.set_cons_succ]
  refine takeY (i := 2) rfl (by kernel_rfl) (by kernel_rfl) (by kernel_rfl) (fun _ _ _ _ h => h) (by rfl) hHeld ?_
  apply Exists.intro
  apply And.intro
  · intro W3 hS3
    go_simp
    try rfl
  try simp only [Act.put, List.getElem_toArray, List.getElem_cons_zero, List.getElem_cons_succ, List.setIfInBounds_toArray, List.set_cons_zero, List.set_cons_succ]
  refine takeY (i := 3) rfl (by kernel_rfl) (by kernel_rfl) (by kernel_rfl) (fun _ _ _ _ h => h) (by rfl) hHeld ?_
  apply Exists.intro
  apply And.intro
  · intro W3 hS3
    go_simp
    try rfl
  try simp only [Act.put, List.getElem_toArray, List.getElem_cons_zero, List.getElem_cons_succ, List.setIfInBounds_toArray, List.set_cons_zero, List.set_cons_succ]
  refine takeY (i := 4) rfl (by kernel_rfl) (by kernel_rfl) (by kernel_rfl) (fun _ _ _ _ h => h) (by rfl) hHeld ?_
  apply Exists.intro
  apply And.intro
  · intro W3 hS3
    go_simp
    try rfl
  try simp only [Act.put, List.getElem_toArray, List.getElem_cons_zero, List.getElem_cons_succ, List.setIfInBounds_toArray, List.set_cons_zero, List.set_cons_succ]
  refine takeY (i := 5) rfl (by kernel_rfl) (by kernel_rfl) (by kernel_rfl) (fun _ _ _ _ h => h) (by rfl) hHeld ?_
  apply Exists.intro
  apply And.intro
  · intro W3 hS3
    go_simp
    try rfl
  try simp only [Act.put, List.getElem_toArray, List.getElem_cons_zero, List.getElem_cons_succ, List.setIfInBounds_toArray, List.set_cons_zero, List.set_cons_succ]
  refine takeY (i := 6) rfl (by kernel_rfl) (by kernel_rfl) (by kernel_rfl) (fun _ _ _ _ h => h) (by rfl) hHeld ?_
  apply Exists.intro
  apply And.intro
  · intro W3 hS3
    go_simp
    try rfl
  try simp only [Act.put, List.getElem_toArray, List.getElem_cons_zero, List.getElem_cons_succ, List.setIfInBounds_toArray, List.set_cons_zero, List.set_cons_succ]
  refine takeY (i := 7) rfl (by kernel_rfl) (by kernel_rfl) (by kernel_rfl) (fun _ _ _ _ h => h) (by rfl) hHeld ?_
  apply Exists.intro
  apply And.intro
  · intro W3 hS3
    go_simp
    try rfl
  try simp only [Act.put, List.getElem_toArray, List.getElem_cons_zero, List.getElem_cons_succ, List.setIfInBounds_toArray, List.set_cons_zero, List.set_cons_succ]
  refine takeY (i := 8) rfl (by kernel_rfl) (by kernel_rfl) (by kernel_rfl) (fun _ _ _ _ h => h) (by rfl) hHeld ?_
  apply Exists.intro
  apply And.intro
  · intro W3 hS3
    go_simp
    try rfl
  try simp only [Act.put, List.getElem_toArray, List.getElem_cons_zero, List.getElem_cons_succ, List.setIfInBounds_toArray, List.set_cons_zero, List.set_cons_succ]
  refine takeY (i := 9) rfl (by kernel_rfl) (by kernel_rfl) (by kernel_rfl) (fun _ _ _ _ h => h) (by rfl) hHeld ?_
  apply Exists.intro
  apply And.intro
  · intro W3 hS3
    go_simp
    try rfl
  try simp only [Act.put, List.getElem_toArray, List.getElem_cons_zero, List.getElem_cons_succ, List.setIfInBounds_toArray, List.set_cons_zero, List.set_cons_succ]
  refine takeY (i := 10) rfl (by kernel_rfl) (by kernel_rfl) (by kernel_rfl) (fun _ _ _ _ h => h) (by rfl) hHeld ?_
  apply Exists.intro
  apply And.intro
  · intro W3 hS3
    go_simp
    try rfl
  try simp only [Act.put, List.getElem_toArray, List.getElem_cons_zero, List.getElem_cons_succ, List.setIfInBounds_toArray, List.set_cons_zero, List.set_cons_succ]
  refine takeY (i := 11) rfl (by kernel_rfl) (by kernel_rfl) (by kernel_rfl) (fun _ _ _ _ h => h) (by rfl) hHeld ?_
  apply Exists.intro
  apply And.intro
  · intro W3 hS3
    go_simp
    try rfl
  try simp only [Act.put, List.getElem_toArray, List.getElem_cons_zero, List.getElem_cons_succ, List.setIfInBounds_toArray, List.set_cons_zero, List.set_cons_succ]
  refine takeY (i := 12) rfl (by kernel_rfl) (by kernel_rfl) (by kernel_rfl) (fun _ _ _ _ h => h) (by rfl) hHeld ?_
  apply Exists.intro
  apply And.intro
  · intro W3 hS3
    go_simp
    try rfl
  try simp only [Act.put, List.getElem_toArray, List.getElem_cons_zero, List.getElem_cons_succ, List.setIfInBounds_toArray, List.set_cons_zero, List.set_cons_succ]
  refine wpAnyH_done (by kernel_rfl) ?_ _
  go_wp2_with fail
  rw [hov0.out w.drew rfl]
  go_wp2_with fail
  have a8 : (0 : Int) ≤ (k : Int) + 2 := by omega
  have a9 : (k : Int) + 2 ≤ (k : Int) + 2 + (m : Int) := by omega
  have a10 : ((k : Int) + 2).toNat = k + 2 := by omega
  have a11 : ¬ cap = k + 2 := by omega
  have a12 : k + 2 + m - (k + 2) = m := by omega
  have a13 : ¬ cap = k + 1 := by omega
  refine wp_region_held_drew (S := fun _ => True) (by kernel_rfl) trivial (fun hHeld => ?_)
  refine takeY (i := 0) rfl (by kernel_rfl) (by kernel_rfl) (by kernel_rfl) (fun _ _ _ _ h => h) (by rfl) hHeld ?_
  apply Exists.intro
  apply And.intro
  · intro W3 hS3
    go_simp
    try rfl
  try simp only [Act.put, List.getElem_toArray, List.getElem_cons_zero, List.getElem_cons_succ, List.setIfInBounds_toArray, List.set_cons_zero, List.set_cons_succ]
  refine takeY (i := 1) rfl (by kernel_rfl) (by kernel_rfl) (by kernel_rfl) (fun _ _ _ _ h => h) (by rfl) hHeld ?_
  apply Exists.intro
  apply And.intro
  · intro W3 hS3
    go_simp
    try rfl
  try simp only [Act.put, List.getElem_toArray, List.getElem_cons_zero, List.getElem_cons_succ, List.setIfInBounds_toArray, List.set_cons_zero, List.set_cons_succ]
  refine takeY (i := 2) rfl (by kernel_rfl) (by kernel_rfl) (by kernel_rfl) (fun _ _ _ _ h => h) (by rfl) hHeld ?_
  apply Exists.intro
  apply And.intro
  · intro W3 hS3
    go_simp
    try rfl
  try simp only [Act.put, List.getElem_toArray, List.getElem_cons_zero, List.getElem_cons_succ, List.setIfInBounds_toArray, List.set_cons_zero, List.set_cons_succ]
  refine takeY (i := 3) rfl (by kernel_rfl) (by kernel_rfl) (by kernel_rfl) (fun _ _ _ _ h => h) (by rfl) hHeld ?_
  apply Exists.intro
  apply And.intro
  · intro W3 hS3
    go_simp
    try rfl
  try simp only [Act.put, List.getElem_toArray, List.getElem_cons_zero, List.getElem_cons_succ, List.setIfInBounds_toArray, List.set_cons_zero, List.set_cons_succ]
  refine takeY (i := 4) rfl (by kernel_rfl) (by kernel_rfl) (by kernel_rfl) (fun _ _ _ _ h => h) (by rfl) hHeld ?_
  apply Exists.intro
  apply And.intro
  · intro W3 hS3
    go_simp
    try rfl
  try simp only [Act.put, List.getElem_toArray, List.getElem_cons_zero, List.getElem_cons_succ, List.setIfInBounds_toArray, List.set_cons_zero, List.set_cons_succ]
  refine takeY (i := 5) rfl (by kernel_rfl) (by kernel_rfl) (by kernel_rfl) (fun _ _ _ _ h => h) (by rfl) hHeld ?_
  apply Exists.intro
  apply And.intro
  · intro W3 hS3
    go_simp
    try rfl
  try simp only [Act.put, List.getElem_toArray, List.getElem_cons_zero, List.getElem_cons_succ, List.setIfInBounds_toArray, List.set_cons_zero, List.set_cons_succ]
  refine takeY (i := 6) rfl (by kernel_rfl) (by kernel_rfl) (by kernel_rfl) (fun _ _ _ _ h => h) (by rfl) hHeld ?_
  apply Exists.intro
  apply And.intro
  · intro W3 hS3
    go_simp
    try rfl
  try simp only [Act.put, List.getElem_toArray, List.getElem_cons_zero, List.getElem_cons_succ, List.setIfInBounds_toArray, List.set_cons_zero, List.set_cons_succ]
  refine takeY (i := 7) rfl (by kernel_rfl) (by kernel_rfl) (by kernel_rfl) (fun _ _ _ _ h => h) (by rfl) hHeld ?_
  apply Exists.intro
  apply And.intro
  · intro W3 hS3
    go_simp
    try rfl
  try simp only [Act.put, List.getElem_toArray, List.getElem_cons_zero, List.getElem_cons_succ, List.setIfInBounds_toArray, List.set_cons_zero, List.set_cons_succ]
  refine takeY (i := 8) rfl (by kernel_rfl) (by kernel_rfl) (by kernel_rfl) (fun _ _ _ _ h => h) (by rfl) hHeld ?_
  apply Exists.intro
  apply And.intro
  · intro W3 hS3
    go_simp
    try rfl
  try simp only [Act.put, List.getElem_toArray, List.getElem_cons_zero, List.getElem_cons_succ, List.setIfInBounds_toArray, List.set_cons_zero, List.set_cons_succ]
  refine wpAnyH_ready (rs := [9]) (by kernel_rfl) (by simp) ?_
  refine AllReadyH.cons rfl (fun K hK => ?_) AllReadyH.nil
  refine step_copyG rfl _ _ 29 29 rfl 3 Try.underlying29 intSize (g) (k + 2) (m) (cap - (k + 2)) (⟨g, k + 1, none⟩) (m) (cap - (k + 1)) (by simp [Act.eval, Act.put]) (by simp [Act.eval, Act.put]) (cur) 3 (HH.out) (D) ?cn ?cp ?cf ?c1 B w ?cBel ?cg ?_
  case cn => rw [HD.out]; simp [Nat.min_def]
  case cp => exact fun j u hj => by rw [Addr.add_lit]; exact HDJ.out j u hj
  case cf => rw [HD.out, HCL.out]; omega
  case c1 => exact hD1.out
  case cBel => exact ((Below.refl B w).drew).drew
  case cg => exact HG.out
  intro w4 hg4 ho4 hb4
  have HV4 := Lib.hid (show w4.heap[vb]? = some (.cells #[.int .i64 x, .int .i64 y] 3 (0, 0)) from (ho4.out vb hne).trans HV.out)
  have HS4 := Lib.hid (show (splice cur (k + 2) D).length = cap by rw [length_splice _ _ _ (by rw [HD.out, HCL.out]; omega)]; exact HCL.out)
  refine hK.out _ _ trivial (fun hHeld => ?_)
  clear hK K a6 a7 e1 e2
  try simp only [Act.put, List.getElem_toArray, List.getElem_cons_zero, List.getElem_cons_succ, List.setIfInBounds_toArray, List.set_cons_zero, List.set_cons_succ]
  refine wpAnyH_done (by kernel_rfl) ?_ _
  generalize splice cur (k + 2) D = cur4 at *
  go_wp2_with (refine wpList_copyG rfl _ _ 29 29 rfl 3 Try.underlying29 intSize (g) (k) (k + 2 + m - k) (cap - k) (⟨vb, 0, none⟩) (2) (vc) rfl rfl (cur4) 3 (hg4.out) ([.int .i64 x, .int .i64 y]) ?cn ?cp ?cf ?c1 B w ?cBel ?cg ?_)
  case cn => show 2 = min 2 _; omega
  case cp => exact two_at HV4.out
  case cf => rw [HS4.out]; simp; omega
  case c1 => exact two_vals x y
  case cBel => exact hb4.out
  case cg => exact HG.out
  intro w5 hg5 ho5 hb5
  have EL := Lib.hid (show (twoC c k x y).length = k + 2 + m by rw [HL.out, HK.out]; omega)
  have HS5 := Lib.hid (show (splice cur4 k [Value.int .i64 x, Value.int .i64 y]).length = cap by rw [length_splice _ _ _ (by rw [HS4.out]; simp; omega)]; exact HS4.out)
  have hle : k + 2 + m ≤ cap := by omega
  go_wp2
  go_ret
  refine ⟨g, cap, by rw [EL.out]; rfl, ⟨⟨by simp, .inr ⟨g, cap, (splice cur4 k [Value.int .i64 x, Value.int .i64 y]).toArray, rfl, HG.out, hg5.out, by rw [EL.out]; exact hle, HCM.out, by simpa using HS5.out, by rw [EL.out, Nat.mul_one]; exact SP.out⟩⟩, HG.out⟩, hb5.out⟩

end Go.Proofs.Ytaakefjblldccaa
