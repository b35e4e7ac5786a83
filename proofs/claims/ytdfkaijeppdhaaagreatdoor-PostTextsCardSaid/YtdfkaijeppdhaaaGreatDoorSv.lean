/- Contracts of the reference: Since, Seen (Post). -/
import Derived.Test.YtdfkaijeppdhaaaGreatDoorSe
import Derived.Test.YtdfkaijeppdhaaaGreatDoorLb
import Derived.Test.YtdfkaijeppdhaaaGreatDoorDu
namespace Go.Proofs.YtdfkaijeppdhaaaGreatDoor
open Go.RowKit Go.Shelf

def newL (seen : Nat → Int) (l : List Ent) : List Ent := l.filter fun e => decide (seen (ePost e).toNat < eNum e)
theorem newL_snoc (seen : Nat → Int) {l : List Ent} {k : Nat} (h : k < l.length) : newL seen (l.take (k + 1)) = newL seen (l.take k) ++ (if seen (ePost (l.getD k noE)).toNat < eNum (l.getD k noE) then [l.getD k noE] else []) := by
  unfold newL
  have e : l.take (k + 1) = l.take k ++ [l.getD k noE] := by
    rw [List.take_succ_eq_append_getElem h, List.getD_eq_getElem?_getD, List.getElem?_eq_getElem h]; rfl
  rw [e, List.filter_append]
  congr 1
  by_cases hc : seen (ePost (l.getD k noE)).toNat < eNum (l.getD k noE)
  · rw [if_pos hc, List.filter_cons_of_pos (by simpa using hc)]; rfl
  · rw [if_neg hc, List.filter_cons_of_neg (by simpa using hc)]; rfl
theorem newL_len (seen : Nat → Int) (l : List Ent) : (newL seen l).length ≤ l.length := List.length_filter_le _ _
set_option maxRecDepth 100000 in
set_option maxHeartbeats 4000000 in
theorem rsince_any (P : Nat) (n : Int) (vs : Nat → Value) (b : Book) (s0 s1 s2 s3 : Int) (seen : Nat → Int) (hs : seen 0 = s0 ∧ seen 1 = s1 ∧ seen 2 = s2 ∧ seen 3 = s3) (w : World) (h : RfAt w P n vs b) (hok : BookOk b) :
    Calls Tryz.prog 33 #[.pointer (some ⟨P, 0, none⟩), .agg #[.int .i64 s0, .int .i64 s1, .int .i64 s2, .int .i64 s3]] w (SincePost (sinceB b seen) w) := by
  obtain ⟨i0, hi0, hz0, hz1, hz2⟩ := info_parts Tryz.infoEnt
  obtain ⟨w1, hw1⟩ : ∃ w1, w1 = w.alloc (.cells #[.int .i64 s0, .int .i64 s1, .int .i64 s2, .int .i64 s3] 34) := ⟨_, rfl⟩
  have HB1 : Hid (Below w.heap.size w w1) := Lib.hid (by rw [hw1]; exact (Below.refl _ w).alloc (Nat.le_refl _) _)
  have HQ1 : Hid (w1.heap[w.heap.size]? = some (.cells #[.int .i64 (seen 0), .int .i64 (seen 1), .int .i64 (seen 2), .int .i64 (seen 3)] 34 (0, 0))) := Lib.hid (by rw [hw1, hs.1, hs.2.1, hs.2.2.1, hs.2.2.2]; exact World.alloc_heap_new w _)
  have HBK := Lib.hid (rbook_any P n vs b w1 (h.below HB1.out) hok)
  have HBD := Lib.hid (fun e (he : e ∈ allB b) => book_bounds hok he)
  have hlen : (allB b).length ≤ 240 := by rw [allB_len]; exact lenB_le hok
  have HSS : Hid (sinceB b seen = newL seen (allB b)) := Lib.hid (since_same hok seen).symm
  rw [HSS.out]
  have HW1 := Lib.hid hw1
  generalize allB b = l at *
  clear h hok hw1 HSS hs
  go_enter Tryz.func33, Tryz.ntmps33
  go_wp2_with fail
  rw [← HW1.out]
  refine HBK.out.mono ?_
  rintro e w2 ⟨v, rfl, hl, _, hb2⟩
  have HE2 := Lib.hid (hl.ents (by omega))
  have HB2 := Lib.hid (HB1.out.trans (hb2.mono HB1.out.size))
  have HQ2 := Lib.hid ((hb2.block _ (Array.getElem?_eq_some_iff.1 HQ1.out).1).trans HQ1.out)
  obtain ⟨a, c, rfl⟩ := own_shape hl
  obtain ⟨n9, hn⟩ : ∃ n, n = l.length := ⟨_, rfl⟩
  have HN := Lib.hid hn
  rw [← hn] at hlen ⊢
  clear hn hl hb2
  go_wp2_with fail
  go_loopw [5, 7] (fun o i wr => ∃ k : Nat, k ≤ n9 ∧ i = .int .i64 k ∧ Hid (wr.ownsRow w2.heap.size 43 4 o (newL seen (l.take k)).length (rowE (newL seen (l.take k)))) ∧ Hid (Below w2.heap.size w2 wr)) (fun _ i _ => n9 - (intOf i).toNat)
  case atStart => exact ⟨0, by omega, rfl, Lib.hid (World.ownsRow_nil _ _ _ _), Lib.hid (Below.refl _ _)⟩
  case round =>
    obtain ⟨k, hk, rfl, HO, HBW⟩ := hrel
    by_cases hlt : k < n9
    · have hlt2 : (k : Int) < (n9 : Int) := by omega
      have hkl : k < l.length := by rw [← HN.out]; exact hlt
      obtain ⟨g, o, cc, hv, p1, p2, p3, p4⟩ := (HE2.out.below HBW.out).entry hkl
      simp only [Value.slice.injEq] at hv
      obtain ⟨rfl, _, rfl⟩ := hv
      have hmem : l.getD k noE ∈ l := by rw [List.getD_eq_getElem?_getD, List.getElem?_eq_getElem hkl]; exact List.getElem_mem hkl
      obtain ⟨⟨hp0, hp3⟩, hnn, hc, hln⟩ := HBD.out _ hmem
      have HSN := Lib.hid (newL_snoc seen hkl)
      obtain ⟨x, hx⟩ : ∃ x : Ent, x = l.getD k noE := ⟨_, rfl⟩
      rw [← hx] at p1 p2 p3 p4 hp0 hp3 HSN
      obtain ⟨p, hp⟩ : ∃ p : Nat, ePost x = (p : Int) := ⟨(ePost x).toNat, by omega⟩
      rw [hp] at p1 HSN hp0 hp3
      rw [Int.toNat_natCast] at HSN
      have hp4 : (p : Int) < 4 := by omega
      have HQW := Lib.hid ((HBW.out.block _ (Array.getElem?_eq_some_iff.1 HQ2.out).1).trans HQ2.out)
      have cq : wr.cell? ⟨w.heap.size, p, none⟩ = some (.int .i64 (seen p)) := by
        rcases (show p = 0 ∨ p = 1 ∨ p = 2 ∨ p = 3 by omega) with rfl | rfl | rfl | rfl <;> exact heap_cell HQW.out rfl
      obtain ⟨oa, oc, rfl⟩ := own_shape2 HO.out
      have hnl := newL_len seen (l.take k)
      rw [List.length_take] at hnl
      have HX := Lib.hid hx
      have HP := Lib.hid hp
      have HEX : Hid (entC x = [.int .i64 (p : Int), .int .i64 (eNum x), .int .i64 (eCnt x), .string (eLine x)]) := Lib.hid (by unfold entC; rw [hp])
      generalize newL seen (l.take k) = nl at *
      obtain ⟨nl2, hnl2⟩ : ∃ nl2, nl2 = newL seen (l.take (k + 1)) := ⟨_, rfl⟩
      rw [← hnl2] at HSN
      have HN2 := Lib.hid hnl2
      clear hnl2
      obtain ⟨m, hm⟩ : ∃ m, m = nl.length := ⟨_, rfl⟩
      have HM := Lib.hid hm
      rw [← hm] at HO hnl ⊢
      clear hmem hnn hc hln hx hp hm hp0 hp3
      by_cases hq : seen p < eNum x
      · have HS2 : Hid (nl2 = nl ++ [x]) := Lib.hid (by rw [HSN.out, if_pos hq])
        obtain ⟨sp, hsp⟩ : ∃ sp, sp = seen p := ⟨_, rfl⟩
        rw [← hsp] at cq hq
        have hd : decide (sp < eNum x) = true := decide_eq_true hq
        clear hsp
        generalize eNum x = xn at *
        generalize eCnt x = xc at *
        generalize eLine x = xl at *
        go_wp2
        go_quiet (fail)
        have HB5 := Lib.hid (belowD HBW.out nq)
        have HO5 : Hid ((wr.drewN nq).ownsRow w2.heap.size 43 4 (.slice oa m oc) m (rowE nl)) := Lib.hid (own_below HO.out (belowD (Below.refl _ _) nq))
        have hsz2 : w2.heap.size ≤ wr.heap.size := HBW.out.size
        go_wp2_with (at_builtin; refine wpList_append_own _ rfl _ _ 40 rfl w2.heap.size 43 i0 (.agg #[.int .i64 0, .int .i64 0, .int .i64 0, .string ⟨#[]⟩]) 4 40 Tryz.underlying40 hi0 hz0 hz1 hz2 rfl (by decide) _ _ _ rfl (HO5.out.alloc _) ⟨wr.heap.size, 0, none⟩ 1 1 (rowE [x]) rfl ?c0 ?c1 ?c2 ?c3 ?c4 ?c5 ?_)
        case c0 => rw [rowE_len]; rfl
        case c1 => exact row4_news (World.alloc_heap_new (wr.drewN nq) (.cells #[.int .i64 (p : Int), .int .i64 xn, .int .i64 xc, .string xl] 43)) HEX.out
        case c2 => exact rowE_one _
        case c3 => unfold maxLen; omega
        case c4 => omega
        case c5 => simp; omega
        intro v' w3 hown' hgrow _
        have R := Lib.hid (below_append HB5.out (by simpa using hsz2) HO5.out (Nat.le_refl _) hgrow)
        have HO6 : Hid (w3.ownsRow w2.heap.size 43 4 v' nl2.length (rowE nl2)) := Lib.hid (by
          rw [HS2.out, List.length_append, List.length_singleton, ← HM.out, rowE_append]
          exact hown')
        clear hown' hgrow
        go_wp2
        go_roundw
        case rel => exact ⟨k + 1, by omega, by go_num, by rw [← HN2.out]; exact HO6, R⟩
        case measure => simp [intOf]; omega
      · have HS2 : Hid (nl2 = nl) := Lib.hid (by rw [HSN.out, if_neg hq, List.append_nil])
        obtain ⟨sp, hsp⟩ : ∃ sp, sp = seen p := ⟨_, rfl⟩
        rw [← hsp] at cq hq
        have hd : decide (sp < eNum x) = false := decide_eq_false hq
        clear hsp
        go_wp2
        go_quiet (fail)
        have HB5 := Lib.hid (belowD HBW.out nq)
        have HO5 : Hid ((wr.drewN nq).ownsRow w2.heap.size 43 4 (.slice oa m oc) nl2.length (rowE nl2)) := Lib.hid (by
          rw [HS2.out, ← HM.out]
          exact own_below HO.out (belowD (Below.refl _ _) nq))
        go_wp2
        go_roundw
        case rel => exact ⟨k + 1, by omega, by go_num, by rw [← HN2.out]; exact HO5, HB5⟩
        case measure => simp [intOf]; omega
    · obtain rfl : k = n9 := by omega
      have HTA : Hid (l.take k = l) := Lib.hid (List.take_of_length_le (by rw [← HN.out]; exact Nat.le_refl _))
      go_wp2
      go_ret
      have h9 := HO.out
      rw [HTA.out] at h9
      exact ⟨_, rfl, own_base h9 (Nat.zero_le _), fun j hj => by have := (h9.lt j hj).1; have := HB2.out.size; omega, HB2.out.trans (HBW.out.mono HB2.out.size)⟩
set_option maxRecDepth 100000 in
set_option maxHeartbeats 4000000 in
theorem rseen_any (P : Nat) (n : Int) (vs : Nat → Value) (b : Book) (w : World) (h : RfAt w P n vs b) (hok : BookOk b) :
    Calls Tryz.prog 79 #[.pointer (some ⟨P, 0, none⟩)] w (SeenPost b w) := by
  have HRF := Lib.hid h
  have HOK := Lib.hid (fun i hi => (hok i hi).len)
  clear h hok
  obtain ⟨w2, hw2⟩ : ∃ w2, w2 = (w.alloc (.cells #[.int .i64 0, .int .i64 0, .int .i64 0, .int .i64 0] 34)).alloc (.cells #[.int .i64 0, .int .i64 0, .int .i64 0, .int .i64 0] 34) := ⟨_, rfl⟩
  have H2 : Hid (SeenAt b w 0 w2) := Lib.hid (by
    refine ⟨?_, ?_, by rw [hw2]; exact ((Below.refl _ w).alloc (Nat.le_refl _) _).alloc (by simp) _⟩
    · have := World.alloc_heap_new (w.alloc (.cells #[.int .i64 0, .int .i64 0, .int .i64 0, .int .i64 0] 34)) (.cells #[.int .i64 0, .int .i64 0, .int .i64 0, .int .i64 0] 34)
      rw [World.size_alloc] at this
      rw [hw2]; exact this
    · rw [hw2]; exact (Below.heap_alloc _ _ _ (by simp)).trans (World.alloc_heap_new w _))
  have HW2 := Lib.hid hw2
  clear hw2
  go_enter Tryz.func79, Tryz.ntmps79
  go_wp2_with fail
  rw [← HW2.out]
  go_loopw [4] (fun i wr => ∃ k : Nat, k ≤ 4 ∧ i = .int .i64 k ∧ Hid (SeenAt b w k wr)) (fun i _ => 4 - (intOf i).toNat)
  case atStart => exact ⟨0, Nat.zero_le _, rfl, H2⟩
  case round =>
    obtain ⟨k, hk, rfl, ho⟩ := hrel
    by_cases hlt : k < 4
    · have hlt2 : (k : Int) < 4 := by omega
      have hge : (0 : Int) ≤ (k : Int) := by omega
      have R1 := Lib.hid (HRF.out.below ho.out.below)
      have q1 := R1.out.cell hlt
      obtain ⟨a1, c1, e1⟩ := (R1.out.2 k hlt).shape
      rw [e1] at q1
      have hlen := HOK.out k hlt
      have HNX := Lib.hid (ho.out.next hlt)
      have x0 : ∃ u, wr.cell? ⟨w.heap.size + 1, k, none⟩ = some u := by
        rcases (show k = 0 ∨ k = 1 ∨ k = 2 ∨ k = 3 by omega) with rfl | rfl | rfl | rfl <;> exact ⟨_, heap_cell ho.out.cells rfl⟩
      obtain ⟨u4, hu4⟩ := x0
      have g0 : wr.frozen? ⟨w.heap.size + 1, k, none⟩ = false := by have h9 := ho.out.cells; simp [World.frozen?, h9]
      clear e1
      generalize (b k).length = bl at *
      go_wp2
      go_roundw
      case rel => exact ⟨k + 1, by omega, by go_num, HNX⟩
      case measure => simp [intOf]; omega
    · have e : k = 4 := by omega
      subst e
      have r0 := heap_cell (j := 0) ho.out.res rfl
      have r1 := heap_cell (j := 1) ho.out.res rfl
      have r2 := heap_cell (j := 2) ho.out.res rfl
      have r3 := heap_cell (j := 3) ho.out.res rfl
      have g0 : ∀ j, wr.frozen? ⟨w.heap.size, j, none⟩ = false := fun j => by have h9 := ho.out.res; simp [World.frozen?, h9]
      have y0 : wr.cell? ⟨w.heap.size + 1, 0, none⟩ = some (.int .i64 ((b 0).length : Int)) := heap_cell (j := 0) ho.out.cells rfl
      have y1 : wr.cell? ⟨w.heap.size + 1, 1, none⟩ = some (.int .i64 ((b 1).length : Int)) := heap_cell (j := 1) ho.out.cells rfl
      have y2 : wr.cell? ⟨w.heap.size + 1, 2, none⟩ = some (.int .i64 ((b 2).length : Int)) := heap_cell (j := 2) ho.out.cells rfl
      have y3 : wr.cell? ⟨w.heap.size + 1, 3, none⟩ = some (.int .i64 ((b 3).length : Int)) := heap_cell (j := 3) ho.out.cells rfl
      go_wp2
      refine bodyPost_ret (v := .agg #[.int .i64 ((b 0).length : Int), .int .i64 ((b 1).length : Int), .int .i64 ((b 2).length : Int), .int .i64 ((b 3).length : Int)]) (by simp [results, Tryz.results79, go_sem, r0, r1, r2, r3]) rfl ⟨rfl, ?_⟩
      exact below_four ho.out.below (Nat.le_refl _) _ _ _ _
end Go.Proofs.YtdfkaijeppdhaaaGreatDoor
