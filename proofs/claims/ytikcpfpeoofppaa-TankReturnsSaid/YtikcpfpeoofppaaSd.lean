/- Contracts: the deeds of a search (the program). -/
import Derived.Test.YtikcpfpeoofppaaSs
import Derived.Test.YtikcpfpeoofppaaRv
import Derived.Deep.RegionHeld3
import Derived.Deep.AppendLies
namespace Go.Proofs.Ytikcpfpeoofppaa
open Go.RowKit Go.Shelf

theorem eq_run {t l m : List Int} (ht : Tvl t) (hl : Lev t l) (hm : Lev t m) (W : World) : (Op.equalIn 10000 66 (pad l) (pad m)).run Try.prog W = .ok (decide (l = m)) W := by
  obtain ⟨r, h1, h2⟩ := run_equal_deep (P := Try.prog) W (m := 3) (by omega) (k := 66) (by kernel_rfl) (by kernel_rfl) (keyOf_pad ht hl) (keyOf_pad ht hm)
  have h3 : r = decide (l = m) := by
    rw [Bool.eq_iff_iff, h2, decide_eq_true_iff]
    exact ⟨fun h => keyL_inj ht hl hm h, fun h => by rw [h]⟩
  rw [h3] at h1
  exact h1

theorem Good.lookup_root {t l : List Int} {es : List Ent} (h : Good t l es) {e : Ent} (he : e ∈ es) (hl : e.1 = l) : e = (l, [], []) := by
  obtain ⟨r, hr⟩ := h.head
  have hm : ((l, [], []) : Ent) ∈ es := by rw [hr]; simp
  have h1 := lookE_in h he
  have h2 := lookE_in h hm
  rw [hl] at h1
  rw [← h1, ← h2]

theorem Good.len_le {t l : List Int} {es : List Ent} (h : Good t l es) : ∀ (n j : Nat), j < n → j < es.length → (es.getD j noE).2.1.length ≤ j
  | 0, j, hj, _ => by omega
  | n + 1, j, hj, hl => by
    have hm := getD_mem hl noE
    rcases h.par _ hm with e | ⟨p, hp, d, _, e⟩
    · rw [e]; exact Nat.zero_le _
    · obtain ⟨i, hi, rfl⟩ := List.getElem_of_mem hp
      have hlen : (es.getD j noE).2.1.length = (es.getD i noE).2.1.length + 1 := by
        rw [e]
        simp [List.getD_eq_getElem?_getD, List.getElem?_eq_getElem hi]
      have hij : i < j := Nat.lt_of_not_le fun hji => by
        have := pairwise_getD h.sorted hji hi
        omega
      have := h.len_le n i (by omega) hi
      omega

theorem run_field0 (d1 d2 d3 v0 v1 v2 v3 : Int) (w : World) : (Instr.field 103 (.agg #[.int .i64 d1, .int .i64 d2, .int .i64 d3, .int .i64 v0, .int .i64 v1, .int .i64 v2, .int .i64 v3]) 0).run Try.prog w = .ok (.agg #[.int .i64 d1, .int .i64 d2, .int .i64 d3]) w := by
  have h := Try.underlying103
  have hd := Try.underlying43
  have h43 : (Try.prog.info? 43).map (fun i => i.size) = some 3 := by kernel_rfl
  obtain ⟨i, hi, hs⟩ := Option.map_eq_some_iff.1 h43
  simp [Instr.field, Go.part, isAgg, asAgg, sizeOf, typeInfo, run_underlying h, run_underlying hd, Sem.run_bind, run_program, Result.andThen, hi, hs]
theorem run_field1 (d1 d2 d3 v0 v1 v2 v3 : Int) (w : World) : (Instr.field 103 (.agg #[.int .i64 d1, .int .i64 d2, .int .i64 d3, .int .i64 v0, .int .i64 v1, .int .i64 v2, .int .i64 v3]) 1).run Try.prog w = .ok (.agg #[.int .i64 v0, .int .i64 v1, .int .i64 v2, .int .i64 v3]) w := by
  have h := Try.underlying103
  have hd : Try.prog.underlying 66 = some (.array 4 3) := by kernel_rfl
  have h43 : (Try.prog.info? 66).map (fun i => i.size) = some 4 := by kernel_rfl
  obtain ⟨i, hi, hs⟩ := Option.map_eq_some_iff.1 h43
  simp [Instr.field, Go.part, isAgg, asAgg, sizeOf, typeInfo, run_underlying h, run_underlying hd, Sem.run_bind, run_program, Result.andThen, hi, hs]

/-- All blocks but a slice's own lie as they lay. -/
def KZ (v : Value) (w W : World) : Prop := ∀ k, k < w.heap.size → some k ≠ v.ownBlock → W.heap[k]? = w.heap[k]?
theorem kz_cell {v : Value} {w W : World} (h : KZ v w W) {a : Addr} {u : Value} (hA : some a.block ≠ v.ownBlock) (hc : w.cell? a = some u) : W.cell? a = some u :=
  (World.cell?_of_block (h a.block (World.block_lt_of_cell? _ _ hc) hA)).trans hc

/-- The length of a slice. -/
def lenV : Value → Nat
  | .slice _ n _ => n
  | _ => 0

set_option maxRecDepth 100000 in
set_option maxHeartbeats 8000000 in
theorem sdeeds_any (Bs M k q m : Nat) (lv : Value) (t l : List Int) (es : List Ent) (w : World) (ht : Tvl t) (hl : Lev t l) (hg : Good t l es) (hes : es = bfs t l k) (hc1 : w.cell? ⟨Bs, 1, none⟩ = some lv) (hc2 : w.cell? ⟨Bs, 2, none⟩ = some (.map (some M)))
    (hlev : LevsAt w lv ((es.take (m + 1)).map fun e : Ent => e.1)) (hn : m + 1 ≤ es.length) (hmp : w.ownsMap Try.prog 66 asIs M q (mapD es)) :
    Calls Try.prog 61 #[.pointer (some ⟨Bs, 0, none⟩)] w fun e w' => ∃ ov, e = .returned ov ∧ DeedsAt w' ov (es.getD m noE).2.1 ∧ Below w.heap.size w w' := by
  obtain ⟨la, lcap, rfl, hlc, hlv⟩ := hlev
  have hlen : ((es.take (m + 1)).map fun e : Ent => e.1).length = m + 1 := by rw [List.length_map, List.length_take]; omega
  rw [hlen] at hlv hc1 hlc
  obtain ⟨g, rfl, hcc⟩ := hlv (by omega)
  have hget : ∀ j, j < m + 1 → ((es.take (m + 1)).map fun e : Ent => e.1).getD j [] = (es.getD j noE).1 := fun j hj => by
    rw [map_getD, List.getD_eq_getElem?_getD, List.getD_eq_getElem?_getD, List.getElem?_take_of_lt hj]
  have a0 := hcc m 0 (by omega) (by omega)
  have a1 := hcc m 1 (by omega) (by omega)
  have a2 := hcc m 2 (by omega) (by omega)
  have a3 := hcc m 3 (by omega) (by omega)
  have b0 := hcc 0 0 (by omega) (by omega)
  have b1 := hcc 0 1 (by omega) (by omega)
  have b2 := hcc 0 2 (by omega) (by omega)
  have b3 := hcc 0 3 (by omega) (by omega)
  rw [hget _ (by omega)] at a0 a1 a2 a3 b0 b1 b2 b3
  simp only [Nat.zero_mul, Nat.zero_add, Nat.add_zero] at a0 b0 b1 b2 b3
  obtain ⟨rr, hr⟩ := hg.head
  have hroot : (es.getD 0 noE).1 = l := by rw [hr]; rfl
  rw [hroot] at b0 b1 b2 b3
  have HE := Lib.hid (getD_mem (show m < es.length by omega) noE)
  generalize hfin : es.getD m noE = fin at *
  have HFIN := Lib.hid hfin
  have HLM : Hid (fin.2.1.length ≤ m) := Lib.hid (by have := hg.len_le (m + 1) m (by omega) (by omega); rwa [hfin] at this)
  clear hcc hget hroot hr hfin
  have K1 : ∀ W, KB w W → W.cell? ⟨Bs, 1, none⟩ = some (.slice (some ⟨g, 0, none⟩) (m + 1) lcap) := fun W h => kb_cell h hc1
  have K2 : ∀ W, KB w W → W.cell? ⟨Bs, 2, none⟩ = some (.map (some M)) := fun W h => kb_cell h hc2
  have KA0 : ∀ W, KB w W → W.cell? ⟨g, m * 4, none⟩ = some (.int .i64 (fin.1.getD 0 0)) := fun W h => kb_cell h a0
  have KA1 : ∀ W, KB w W → W.cell? ⟨g, m * 4 + 1, none⟩ = some (.int .i64 (fin.1.getD 1 0)) := fun W h => kb_cell h a1
  have KA2 : ∀ W, KB w W → W.cell? ⟨g, m * 4 + 2, none⟩ = some (.int .i64 (fin.1.getD 2 0)) := fun W h => kb_cell h a2
  have KA3 : ∀ W, KB w W → W.cell? ⟨g, m * 4 + 3, none⟩ = some (.int .i64 (fin.1.getD 3 0)) := fun W h => kb_cell h a3
  have HB0 := Lib.hid b0
  have HB1 := Lib.hid b1
  have HB2 := Lib.hid b2
  have HB3 := Lib.hid b3
  have HC1 := Lib.hid hc1
  have HC2 := Lib.hid hc2
  have HM := Lib.hid hmp
  have HG := Lib.hid hg
  have HT := Lib.hid ht
  have HL := Lib.hid hl
  have hn9 : m + 1 ≤ 28561 := by have := bfs_len ht hl k; have := sizeR_le ht; rw [← hes] at *; omega
  have hi1 : (0 : Int) ≤ (m : Int) := by omega
  have hi2 : (m : Int) < (m : Int) + 1 := by omega
  have hi4 : IntKind.i64.wrap ((m : Int) + 1 - 1) = (m : Int) := by rw [Int.add_sub_cancel]; exact IntWalk.i64_in _ (by omega)
  have hi7 : IntKind.i64.wrap (m : Int) = (m : Int) := IntWalk.i64_in _ (by omega)
  have hi8 : m < m + 1 := by omega
  clear hmp hg ht hl hc1 hc2 a0 a1 a2 a3 b0 b1 b2 b3 hes hlen
  go_enter Try.func61, Try.ntmps61
  go_wp2
  go_region_held3 (fun W => KB w W) (first | exact Below.drew (Below.refl _ _) | (unfold KB; repeat (first | assumption | exact Below.refl _ _ | refine Below.drew ?_ | refine Below.alloc ?_ (by first | omega | (simp; done) | (simp; omega)) _))) (fail)
  all_goals go_wp2
  go_loopw [3, 4] (fun s p wr => ∃ (cur : Ent) (out : List Deed) (A : Nat), p = .pointer (some ⟨A, 0, none⟩) ∧ Hid (cur ∈ es ∧ fin.2.1 = cur.2.1 ++ out.reverse) ∧ wr.heap[A]? = some (.cells (padB cur.1) 66 (0, 0)) ∧ w.heap.size ≤ A ∧ wr.ownsRow w.heap.size 43 3 s out.length (flatD out) ∧ Below w.heap.size w wr) (fun s _ _ => fin.2.1.length - lenV s)
  case atStart => exact ⟨fin, [], w.heap.size, rfl, Lib.hid ⟨HE.out, by simp⟩, World.alloc_heap_new w _, Nat.le_refl _, World.ownsRow_nil _ _ _ _, ((Below.refl _ w).alloc (Nat.le_refl _) _).drew⟩
  case round =>
    obtain ⟨cur, out, A, rfl, HCU, hA, hAw, hrow, hbel⟩ := hrel
    obtain ⟨n0, n1, n2, n3⟩ := cellsB hA
    have hcl := HG.out.lev cur HCU.out.1
    have hq : ∀ W, (Op.equalIn 10000 66 (.agg #[.int .i64 (cur.1.getD 0 0), .int .i64 (cur.1.getD 1 0), .int .i64 (cur.1.getD 2 0), .int .i64 (cur.1.getD 3 0)]) (.agg #[.int .i64 (l.getD 0 0), .int .i64 (l.getD 1 0), .int .i64 (l.getD 2 0), .int .i64 (l.getD 3 0)])).run Try.prog W = .ok (decide (cur.1 = l)) W := fun W => eq_run HT.out hcl HL.out W
    have hlk : ∀ W, KB w W → (Instr.lookup 96 (.map (some M)) (.agg #[.int .i64 (cur.1.getD 0 0), .int .i64 (cur.1.getD 1 0), .int .i64 (cur.1.getD 2 0), .int .i64 (cur.1.getD 3 0)]) false).run Try.prog W = .ok (cameV (lastD cur) cur.2.2) W := fun W h => by
      have := look_run1 HT.out HG.out hcl (ownsMap_of_block HM.out (h.block M HM.out.lt))
      rw [lookE_in HG.out HCU.out.1] at this
      exact this
    have HA := Lib.hid hA
    have HROW := Lib.hid hrow
    have HBEL := Lib.hid hbel
    have HPAD := Lib.hid (show pad cur.1 = .agg #[.int .i64 (cur.1.getD 0 0), .int .i64 (cur.1.getD 1 0), .int .i64 (cur.1.getD 2 0), .int .i64 (cur.1.getD 3 0)] from rfl)
    have kk1 := keep_cell hbel HC1.out
    have kk2 := keep_cell hbel HC2.out
    have z0 := keep_cell hbel HB0.out
    have z1 := keep_cell hbel HB1.out
    have z2 := keep_cell hbel HB2.out
    have z3 := keep_cell hbel HB3.out
    have hAlt : A < wr.heap.size := (Array.getElem?_eq_some_iff.1 hA).1
    clear hA hrow hcl K1 K2 KA0 KA1 KA2 KA3
    generalize cur.1.getD 0 0 = y0 at *
    generalize cur.1.getD 1 0 = y1 at *
    generalize cur.1.getD 2 0 = y2 at *
    generalize cur.1.getD 3 0 = y3 at *
    generalize l.getD 0 0 = x0 at *
    generalize l.getD 1 0 = x1 at *
    generalize l.getD 2 0 = x2 at *
    generalize l.getD 3 0 = x3 at *
    have r1 : ∀ W, KB wr W → W.cell? ⟨Bs, 1, none⟩ = some (.slice (some ⟨g, 0, none⟩) (m + 1) lcap) := fun W h => kb_cell h kk1
    have r2 : ∀ W, KB wr W → W.cell? ⟨Bs, 2, none⟩ = some (.map (some M)) := fun W h => kb_cell h kk2
    have r3 : ∀ W, KB wr W → W.cell? ⟨g, 0, none⟩ = some (.int .i64 x0) := fun W h => kb_cell h z0
    have r4 : ∀ W, KB wr W → W.cell? ⟨g, 1, none⟩ = some (.int .i64 x1) := fun W h => kb_cell h z1
    have r5 : ∀ W, KB wr W → W.cell? ⟨g, 2, none⟩ = some (.int .i64 x2) := fun W h => kb_cell h z2
    have r6 : ∀ W, KB wr W → W.cell? ⟨g, 3, none⟩ = some (.int .i64 x3) := fun W h => kb_cell h z3
    have r7 : ∀ W, KB wr W → W.cell? ⟨A, 0, none⟩ = some (.int .i64 y0) := fun W h => kb_cell h n0
    have r8 : ∀ W, KB wr W → W.cell? ⟨A, 1, none⟩ = some (.int .i64 y1) := fun W h => kb_cell h n1
    have r9 : ∀ W, KB wr W → W.cell? ⟨A, 2, none⟩ = some (.int .i64 y2) := fun W h => kb_cell h n2
    have ra : ∀ W, KB wr W → W.cell? ⟨A, 3, none⟩ = some (.int .i64 y3) := fun W h => kb_cell h n3
    have rl : ∀ W, KB wr W → (Instr.lookup 96 (.map (some M)) (.agg #[.int .i64 y0, .int .i64 y1, .int .i64 y2, .int .i64 y3]) false).run Try.prog W = .ok (cameV (lastD cur) cur.2.2) W := fun W h => hlk W (HBEL.out.trans (h.mono HBEL.out.size))
    clear hlk
    by_cases hcur : cur.1 = l
    · rw [decide_eq_true hcur] at hq
      have HCR := Lib.hid (HG.out.lookup_root HCU.out.1 hcur)
      clear hcur rl
      have HFN : Hid (fin.2.1 = out.reverse) := Lib.hid (by rw [HCU.out.2, HCR.out]; rfl)
      have hout : out.length ≤ 100000 := by
        have h1 := HLM.out
        rw [HFN.out] at h1
        simp at h1
        omega
      rcases HROW.out.2 with ⟨rfl, ho⟩ | ⟨gr, gcap, cr, rfl, _⟩
      · go_wp2
        go_region_held3 (fun W => KB wr W) (exact Below.drew (Below.refl _ _)) (fail)
        all_goals go_wp2_with fail
        refine (reverse_nil _).mono ?_
        rintro e w1 ⟨⟨u, rfl⟩, rfl⟩
        go_wp2
        go_ret
        have : out = [] := List.eq_nil_of_length_eq_zero ho
        subst this
        exact ⟨_, rfl, by rw [HFN.out]; exact deeds_nil _, hbel.drew⟩
      · have RV := Lib.hid (fun W (h : W.ownsRow w.heap.size 43 3 (.slice (some ⟨gr, 0, none⟩) out.length gcap) out.length (flatD out)) => reverse_any w.heap.size gr gcap out W h hout)
        go_wp2
        go_region_held3 (fun W => KB wr W) (exact Below.drew (Below.refl _ _)) (fail)
        all_goals go_wp2_with fail
        refine (RV.out _ HROW.out.drew).mono ?_
        rintro e w1 ⟨⟨u, rfl⟩, hr1, hb1⟩
        have HR1 := Lib.hid hr1
        clear hr1
        go_wp2
        go_ret
        have hrl : out.length = out.reverse.length := by simp
        refine ⟨.slice (some ⟨gr, 0, none⟩) out.length gcap, rfl, ?_, hbel.drew.trans hb1⟩
        rw [HFN.out]
        have h1 := HR1.out
        rw [hrl] at h1 ⊢
        exact own_deeds h1 (by simp; omega)
    · rw [decide_eq_false hcur] at hq
      obtain ⟨pe, d, hpe, hcurE⟩ : ∃ (pe : Ent) (d : Deed), pe ∈ es ∧ cur = (doneL t pe.1 d, pe.2.1 ++ [d], pe.1) := by
        rcases HG.out.par cur HCU.out.1 with h | ⟨pe, hpe, d, _, h⟩
        · exact absurd (by rw [h]) hcur
        · exact ⟨pe, d, hpe, h⟩
      have hlast : lastD cur = d := by rw [hcurE]; simp [lastD]
      have hpar : cur.2.2 = pe.1 := by rw [hcurE]
      have HWAY : Hid (pe ∈ es ∧ fin.2.1 = pe.2.1 ++ (out ++ [d]).reverse) := Lib.hid ⟨hpe, by rw [HCU.out.2, hcurE]; simp⟩
      have HLN : Hid (out.length < fin.2.1.length) := Lib.hid (by rw [HWAY.out.2]; simp; omega)
      have hout : out.length ≤ 28561 := by have h1 := HLM.out; have h2 := HLN.out; omega
      obtain ⟨d1, d2, d3⟩ := d
      rw [hlast, hpar] at rl
      have HPB := Lib.hid (show padB pe.1 = #[.int .i64 (pe.1.getD 0 0), .int .i64 (pe.1.getD 1 0), .int .i64 (pe.1.getD 2 0), .int .i64 (pe.1.getD 3 0)] from rfl)
      unfold cameV at rl
      clear hcurE hlast hpar hpe hcur
      generalize pe.1.getD 0 0 = v0 at *
      generalize pe.1.getD 1 0 = v1 at *
      generalize pe.1.getD 2 0 = v2 at *
      generalize pe.1.getD 3 0 = v3 at *
      go_wp2
      go_region_held3 (fun W => KB wr W) (exact Below.drew (Below.refl _ _)) (fail)
      all_goals go_wp2
      have hAr : some A ≠ u3.ownBlock := fun e => by
        rcases HROW.out.2 with ⟨rfl, _⟩ | ⟨g', cap', cr, rfl, _, hgb, _⟩
        · simp [Value.ownBlock] at e
        · simp only [Value.ownBlock, Option.some.injEq] at e
          subst e
          rw [HA.out] at hgb
          simp at hgb
      have hlow : ∀ k, k < w.heap.size → some k ≠ u3.ownBlock := fun k hk e => by
        have := (HROW.out.lt k e.symm).1
        omega
      have hBsl : Bs < w.heap.size := World.block_lt_of_cell? _ _ HC1.out
      have hMl : M < w.heap.size := HM.out.lt
      have s2 : ∀ W, KZ u3 wr W → W.cell? ⟨Bs, 2, none⟩ = some (.map (some M)) := fun W h => kz_cell h (hlow _ hBsl) kk2
      have s7 : ∀ W, KZ u3 wr W → W.cell? ⟨A, 0, none⟩ = some (.int .i64 y0) := fun W h => kz_cell h hAr n0
      have s8 : ∀ W, KZ u3 wr W → W.cell? ⟨A, 1, none⟩ = some (.int .i64 y1) := fun W h => kz_cell h hAr n1
      have s9 : ∀ W, KZ u3 wr W → W.cell? ⟨A, 2, none⟩ = some (.int .i64 y2) := fun W h => kz_cell h hAr n2
      have sa : ∀ W, KZ u3 wr W → W.cell? ⟨A, 3, none⟩ = some (.int .i64 y3) := fun W h => kz_cell h hAr n3
      have sl : ∀ W, KZ u3 wr W → (Instr.lookup 96 (.map (some M)) (.agg #[.int .i64 y0, .int .i64 y1, .int .i64 y2, .int .i64 y3]) false).run Try.prog W = .ok (.agg #[.int .i64 d1, .int .i64 d2, .int .i64 d3, .int .i64 v0, .int .i64 v1, .int .i64 v2, .int .i64 v3]) W := fun W h => by
        have := look_run1 HT.out HG.out (HG.out.lev cur HCU.out.1) (ownsMap_of_block HM.out ((h M (Nat.lt_of_lt_of_le hMl HBEL.out.size) (hlow _ hMl)).trans (HBEL.out.block M hMl)))
        rw [HPAD.out] at this
        rw [this]
        have h2 := rl wr (Below.refl _ _)
        have h3 := look_run1 HT.out HG.out (HG.out.lev cur HCU.out.1) (ownsMap_of_block HM.out (HBEL.out.block M hMl))
        rw [HPAD.out, h2] at h3
        simp only [Result.ok.injEq, and_true] at h3
        rw [← h3]
      obtain ⟨i0, hi0, hz0, hz1, hz2⟩ := info_parts Try.infoDeed
      have hbase : w.heap.size ≤ wr.heap.size := HBEL.out.size
      have hf0 := run_field0 d1 d2 d3 v0 v1 v2 v3
      have hf1 := run_field1 d1 d2 d3 v0 v1 v2 v3
      clear r1 r2 r3 r4 r5 r6 r7 r8 r9 ra rl kk1 kk2 z0 z1 z2 z3 n0 n1 n2 n3
      go_region_held3 (fun W => KZ u3 wr W) (first | exact fun _ _ _ => rfl | (intro k h1 _; rw [heap_drew]; exact heap_alloc_lt h1) | (intro k h1 h2; exact hkz k h1 h2)) ((refine step_append_lies _ (by rfl) _ _ _ (by rfl) w.heap.size 43 i0 (.agg #[.int .i64 0, .int .i64 0, .int .i64 0]) 3 24 Try.underlying22 hi0 hz0 hz1 hz2 rfl (by decide) u3 out.length (flatD out) (by rfl) (HROW.out.alloc _).drew ⟨wr.heap.size, 0, none⟩ 1 1 [.int .i64 d1, .int .i64 d2, .int .i64 d3] (by rfl) rfl (cell3_new wr _ _ _ _ rfl) (by intro u hu; simp at hu; rcases hu with rfl | rfl | rfl <;> rfl) (by omega) (by unfold maxLen; omega) (by omega) (by simp [heap_drew]; omega) (wr.heap.size + 1) (by simp [heap_drew]) ?_; intro g' cap' w1 hown1 hg1 hat hlt1; have hkz : KZ u3 wr w1 := fun k h1 h2 => (hg1.block k (by simp [heap_drew]; omega) h2).trans (by rw [heap_drew]; exact heap_alloc_lt h1)))
      all_goals go_wp2
      have HB1w : Hid (Below w.heap.size w w1) := Lib.hid (((HBEL.out.alloc hbase _).drew.drew).grown hg1 (by simp [heap_drew]; omega) (fun k e => (HROW.out.lt k e).1))
      have hz1 : wr.heap.size ≤ w1.heap.size := by have := hg1.size; simp [heap_drew] at this; omega
      have t2 : ∀ W, KB w1 W → W.cell? ⟨Bs, 2, none⟩ = some (.map (some M)) := fun W h => kb_cell h (s2 w1 hkz)
      have tl : ∀ W, KB w1 W → (Instr.lookup 96 (.map (some M)) (.agg #[.int .i64 y0, .int .i64 y1, .int .i64 y2, .int .i64 y3]) false).run Try.prog W = .ok (.agg #[.int .i64 d1, .int .i64 d2, .int .i64 d3, .int .i64 v0, .int .i64 v1, .int .i64 v2, .int .i64 v3]) W := fun W h => sl W (fun k h1 h2 => (h.block k (by omega)).trans (hkz k h1 h2))
      have HO1 := Lib.hid hown1
      have HLT1 := Lib.hid hlt1
      clear s2 s7 s8 s9 sa sl hkz hown1 hg1 hat hlt1 hAr hlow
      have hk4 : KB w1 (w1.alloc (.cells #[.int .i64 y0, .int .i64 y1, .int .i64 y2, .int .i64 y3] 66)) := (Below.refl _ w1).alloc (Nat.le_refl _) _
      have t3 := t2 _ hk4
      have tl3 := tl _ (Below.drew hk4)
      clear t2 tl hk4
      go_region
      all_goals go_wp2
      all_goals (
        go_roundw
        case rel =>
          refine ⟨pe, out ++ [(d1, d2, d3)], w1.heap.size, rfl, Lib.hid HWAY.out, by rw [HPB.out, heap_drew]; exact World.alloc_heap_new w1 _, HB1w.out.size, ?_, (HB1w.out.alloc HB1w.out.size _).drew⟩
          have h1 : (out ++ [(d1, d2, d3)]).length = out.length + 1 := by simp
          rw [h1, flatD_append]
          exact (HO1.out.alloc _).drew
        case measure =>
          have h1 := HLN.out
          have h2 : lenV u3 = out.length := by
            rcases HROW.out.2 with ⟨rfl, h⟩ | ⟨_, _, _, rfl, _⟩
            · simp [lenV, h]
            · rfl
          rw [h2]
          simp only [lenV]
          omega)

end Go.Proofs.Ytikcpfpeoofppaa
