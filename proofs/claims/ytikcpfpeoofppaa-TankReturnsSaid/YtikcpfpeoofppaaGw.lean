/- Contract: the tree of the reference: the walk. -/
import Derived.Test.YtikcpfpeoofppaaGr
namespace Go.Proofs.Ytikcpfpeoofppaa
open Go.RowKit

theorem sizeK_int {t : List Int} (ht : Tvl t) {k : Nat} (hk : k < t.length) : ((sizeK t (k + 1) : Nat) : Int) = ((sizeK t k : Nat) : Int) * (t.getD k 0 + 1) := by
  have h1 := ht.holds _ (mem_getD hk)
  show ((sizeK t k * ((t.getD k 0).toNat + 1) : Nat) : Int) = _
  rw [Int.natCast_mul, Int.natCast_add, Int.toNat_of_nonneg (by omega)]
  rfl
theorem sizeK_bd {t : List Int} (ht : Tvl t) {k : Nat} (hk : k ≤ t.length) : 0 ≤ ((sizeK t k : Nat) : Int) ∧ ((sizeK t k : Nat) : Int) ≤ 28561 := by
  have h2 := sizeK_le ht k hk
  have h3 : 13 ^ k ≤ 13 ^ 4 := Nat.pow_le_pow_right (by omega) (Nat.le_trans hk ht.hi)
  omega

theorem deedsL_pos {n : Nat} (h2 : 2 ≤ n) (h4 : n ≤ 4) : 0 < (deedsL n).length ∧ (deedsL n).length ≤ 24 := ⟨by
  unfold deedsL
  rw [List.length_append, preF_len]
  omega, deedsL_len h4⟩
theorem own_form3 {B n : Nat} {W : World} {v : Value} {e : TypeId} {sz : Nat} {xs : List Value} (h : W.ownsRow B e sz v n xs) (h0 : 0 < n) : ∃ g cap, v = .slice (some ⟨g, 0, none⟩) n cap ∧ B ≤ g := by
  rcases h.2 with ⟨_, h1⟩ | ⟨g, cap, cur, rfl, hb, hg, hr⟩
  · omega
  · exact ⟨g, cap, rfl, hb⟩
theorem own_base {B B' n : Nat} {W : World} {v : Value} {e : TypeId} {sz : Nat} {xs : List Value} (h : W.ownsRow B e sz v n xs) (hB : B' ≤ B) : W.ownsRow B' e sz v n xs := by
  refine ⟨h.1, ?_⟩
  rcases h.2 with h1 | ⟨g, cap, cur, rfl, hb, hg, hr⟩
  · exact .inl h1
  · exact .inr ⟨g, cap, cur, rfl, by omega, hg, hr⟩

theorem full_le {t l : List Int} (ht : Tvl t) (hl : Lev t l) : (full t l).length ≤ sizeR t := bfs_len ht hl _
/-- The entries when the first q deeds of a round are done with. -/
def roundE (t : List Int) (x : Ent) (es : List Ent) (q : Nat) : List Ent := ((deedsL t.length).take q).foldl (stepE t x) es
theorem grow_in {t l : List Int} {k q : Nat} (ht : Tvl t) (h : At t l k) (hk : k < (bfs t l k).length) :
    Good t l (roundE t ((bfs t l k).getD k noE) (bfs t l k) q) ∧ bfs t l k <+: roundE t ((bfs t l k).getD k noE) (bfs t l k) q :=
  ⟨(foldE_good (x := (bfs t l k).getD k noE) ht _ _ h.good (getD_mem hk _) (fun _d hd => mem_deedsL.1 (List.mem_of_mem_take hd)) (h.top hk)).1, foldE_prefix _ _ _ _⟩
theorem roundE_succ {t : List Int} {x : Ent} {es : List Ent} {q : Nat} (hq : q < (deedsL t.length).length) : roundE t x es (q + 1) = stepE t x (roundE t x es q) ((deedsL t.length).getD q noDeed) := by
  unfold roundE
  rw [List.take_succ_eq_append_getElem hq, List.foldl_append]
  simp [List.getD_eq_getElem?_getD, hq]
theorem roundE_end {t : List Int} {x : Ent} {es : List Ent} : roundE t x es (deedsL t.length).length = (deedsL t.length).foldl (stepE t x) es := by
  unfold roundE
  rw [List.take_length]

theorem cell1_new {n : Nat} (w : World) (x : Value) (t : TypeId) (hn : w.heap.size = n) : ∀ j u, [x][j]? = some u → (w.alloc (.cells #[x] t)).cell? ((⟨n, 0, none⟩ : Addr).add j) = some u := by
  subst hn
  intro j u hj
  match j, hj with
  | 0, hj => simp at hj; subst hj; simp [Addr.add]

theorem made_ex {n0 Bx go gf gb N : Nat} {x : Int} {w W : World} (h1 : W.heap[Bx]? = some (.cells #[.slice (some ⟨go, 0, none⟩) 1 1, .slice (some ⟨gf, 0, none⟩) N N, .slice (some ⟨gb, 0, none⟩) N N] 91 (0, 0)))
    (h2 : W.heap[go]? = some (.cells #[.int .i64 x] 3 (0, 0))) (h3 : W.heap[gf]? = some (.cells (zI N) 3 (0, 0))) (h4 : W.heap[gb]? = some (.cells (zD N) 43 (0, 0))) (h5 : go ≠ gf) (h6 : n0 ≤ Bx ∧ n0 ≤ go ∧ n0 ≤ gf ∧ n0 ≤ gb) (h7 : KB w W) :
    ∃ Bx' go' gf' gb', Value.pointer (some ⟨Bx, 0, none⟩) = .pointer (some ⟨Bx', 0, none⟩) ∧ Made n0 Bx' go' gf' gb' N x W ∧ Below w.heap.size w W := ⟨Bx, go, gf, gb, rfl, ⟨h1, h2, h3, h4, h5, h6⟩, h7⟩


set_option maxRecDepth 100000 in
set_option maxHeartbeats 8000000 in
theorem rGrow_any (v y : Value) (t l : List Int) (w : World) (hv : IntsAt w v t) (hy : IntsAt w y l) (ht : Tvl t) (hl : Lev t l) :
    Calls Try.prog 63 #[v, y] w (GivesT t l w) := by
  have V := Lib.hid hv
  have Y := Lib.hid hy
  have HT := Lib.hid ht
  have HL := Lib.hid hl
  have hlo := ht.lo
  have hhi := ht.hi
  have hll := hl.1
  obtain ⟨vb, voff, vcap, rfl, hvc⟩ := ints_cell hv (by omega)
  obtain ⟨yb, yoff, ycap, rfl, _⟩ := ints_cell hy (by omega)
  have HVC := Lib.hid hvc
  have HLL := Lib.hid hll
  have RN := Lib.hid (fun W (hb : KB w W) => rNumber_q _ _ t l W (V.out.below hb) (Y.out.below hb) ht hl)
  clear hv hy hvc hll
  go_enter Try.func63, Try.ntmps63
  go_wp2
  go_loop [5, 6] (fun s i => ∃ k : Nat, k ≤ t.length ∧ i = .int .i64 k ∧ s = .int .i64 (sizeK t k : Nat)) (fun _ i => t.length - (intOf i).toNat)
  case atStart => exact ⟨0, Nat.zero_le _, rfl, rfl⟩
  case round =>
    obtain ⟨k, hk, rfl, rfl⟩ := hrel
    by_cases hlt : k < t.length
    · have x1 := HVC.out k hlt
      have S := Lib.hid (sizeK_int ht hlt)
      have hb := sizeK_bd ht hk
      have h1 := ht.holds _ (mem_getD hlt)
      generalize ((sizeK t k : Nat) : Int) = N at *
      generalize t.getD k 0 = x at *
      have m1 : 0 ≤ N * (x + 1) ∧ N * (x + 1) ≤ 28561 * 13 := ⟨Int.mul_nonneg (by omega) (by omega), Int.mul_le_mul (by omega) (by omega) (by omega) (by omega)⟩
      have hlt' : (k : Int) < (t.length : Int) := by omega
      go_wp2
      go_round
      case rel => exact ⟨k + 1, by omega, by go_num, by rw [S.out]⟩
      case measure => simp [intOf]; omega
    · obtain rfl : k = t.length := by omega
      have hnb := num_bd ht hl
      obtain ⟨N, hN⟩ : ∃ N, N = sizeR t := ⟨_, rfl⟩
      rw [show sizeK t t.length = N from hN.symm]
      rw [← hN] at hnb
      have NN := Lib.hid hN
      clear hN
      obtain ⟨nl, hnl⟩ : ∃ n, n = numR t l := ⟨_, rfl⟩
      rw [← hnl] at RN hnb
      have NL := Lib.hid hnl
      clear hnl
      have hmI := fun W => make_ints N hnb.2 W
      have hmD := fun W => make_deeds N hnb.2 W
      go_upto_region 6 with fail
      go_cut [7] (fun s7 wx => ∃ Bx go gf gb, s7 = .pointer (some ⟨Bx, 0, none⟩) ∧ Made w.heap.size Bx go gf gb N (nl : Nat) wx ∧ Below w.heap.size w wx)
      case first =>
        go_region_with ((go_at_call 72; refine (RN.out _ (by repeat (first | exact KB.refl _ | apply KB.alloc | apply KB.drew))).mono ?_; rintro e w' ⟨rfl, q, rfl⟩))
        all_goals (
          go_wp2_with fail
          go_meet
          apply made_ex
          · repeat (first | (with_reducible refine (heap_alloc_lt ?hs).trans ?_; case hs => (first | (simp; done) | (simp; omega))) | (with_reducible refine heap_alloc_at ?hs; case hs => (first | (simp; done) | (simp; omega))) | rw [heap_drew] | rw [heap_drewN])
          · repeat (first | (with_reducible refine (heap_alloc_lt ?hs).trans ?_; case hs => (first | (simp; done) | (simp; omega))) | (with_reducible refine heap_alloc_at ?hs; case hs => (first | (simp; done) | (simp; omega))) | rw [heap_drew] | rw [heap_drewN])
          · repeat (first | (with_reducible refine (heap_alloc_lt ?hs).trans ?_; case hs => (first | (simp; done) | (simp; omega))) | (with_reducible refine heap_alloc_at ?hs; case hs => (first | (simp; done) | (simp; omega))) | rw [heap_drew] | rw [heap_drewN])
          · repeat (first | (with_reducible refine (heap_alloc_lt ?hs).trans ?_; case hs => (first | (simp; done) | (simp; omega))) | (with_reducible refine heap_alloc_at ?hs; case hs => (first | (simp; done) | (simp; omega))) | rw [heap_drew] | rw [heap_drewN])
          · omega
          · omega
          · exact KB.alloc (KB.alloc (KB.alloc (KB.alloc (KB.drewN (KB.refl _) _) _) _) _) _)
      case rest =>
        obtain ⟨Bx, go, gf, gb, rfl, HM, hbc⟩ := hcut
        have T0 := HM.tree hnb.2
        have hle := HM.le
        clear HM hmI hmD
        have hgl : go < wc.heap.size := T0.lt.2.1
        have hgbl : gb < wc.heap.size := T0.lt.2.2.2.1
        obtain ⟨j0, hj0, hy0, hy1, hy2⟩ := info_parts Try.infoBool
        have HT0 := Lib.hid T0
        have HBC := Lib.hid hbc
        clear T0 hbc
        go_wp2_with (at_make; refine wpList_make_full _ rfl _ _ 100 rfl w.heap.size 4 j0 (.bool false) 1 Try.underlying100 hj0 hy0 hy1 .i64 .i64 _ _ N rfl rfl rfl rfl (by rw [hy2]; omega) (by unfold maxLen; omega) HBC.out.size ?_; intro w3 hown3 hgrow3; rw [zB_vals] at hown3; have hb3 : Below wc.heap.size wc w3 := (Below.refl _ _).grown hgrow3 (Nat.le_refl _) (fun k e => by cases e); have T3 := HT0.out.below hb3; have c3 := T3.cells; have b0 := c3.1; have o0 := T3.ord (i := 0) (by simp); have s0 := (hown3.cellAt nl (by omega)).trans (show _ = some (Value.bool false) by simp [hnb.1]); have f0 := hown3.frozenAt nl; simp only [List.length_singleton, List.getD_cons_zero] at b0 o0)
        have hs3 : wc.heap.size < w3.heap.size := World.block_lt_of_cell? _ _ s0
        have OS3 := (hown3.stored nl (.bool true)).1
        rw [← List.map_set] at OS3
        have T4 := T3.block (W' := w3.setCell ⟨wc.heap.size, nl, none⟩ (.bool true)) (fun k hk => Below.heap_setCell _ _ _ k (by
          obtain ⟨l1, l2, l3, l4, _⟩ := HT0.out.lt
          rcases hk with rfl | rfl | rfl | rfl <;> simp only <;> omega))
        have HB4 := Lib.hid (((HBC.out.trans (hb3.mono HBC.out.size)).setCell (p := ⟨wc.heap.size, nl, none⟩) HBC.out.size (.bool true)))
        have HT4 := Lib.hid T4
        have HS4 := Lib.hid OS3
        clear T3 c3 b0 o0 s0 f0 hown3 hgrow3 hb3 OS3 T4
        generalize w3.setCell ⟨wc.heap.size, nl, none⟩ (.bool true) = w4 at *
        have c4 := HT4.out.cells
        have b0 := c4.1
        have b1 := c4.2.1
        have o0 := HT4.out.ord (i := 0) (by simp)
        have g0 := HT4.out.frm (by simp) hnb.1
        have g1 := g0.1
        have g2 := g0.2
        simp only [List.length_singleton, List.getD_cons_zero] at b0 o0
        generalize (List.replicate N (0 : Int)).getD nl 0 = y0 at g1
        clear c4 g0
        go_region
        go_wp2_with fail
        have T5 := HT4.out.setFrom nl (-1)
        have HB5 := Lib.hid ((HB4.out.setCell (p := ⟨gf, nl, none⟩) hle.2.2.1 (.int .i64 (-1))).drew)
        have HT5 := Lib.hid (T5.block (W' := (w4.setCell ⟨gf, nl, none⟩ (.int .i64 (-1))).drew) (fun _ _ => rfl))
        have HS5 := Lib.hid (row_keep HS4.out (W' := (w4.setCell ⟨gf, nl, none⟩ (.int .i64 (-1))).drew) (Below.heap_setCell _ _ _ _ (by have h := row_ne HS4.out HT4.out.rf (by decide); simpa using h)))
        clear T5 b0 b1 o0 g1 g2
        generalize (w4.setCell ⟨gf, nl, none⟩ (.int .i64 (-1))).drew = w5 at *
        refine (rDeeds_any0 t.length hhi _).mono ?_
        rintro e w6 ⟨va, rfl, hva, hb6⟩
        have hdl := deedsL_pos hlo hhi
        generalize hM : (deedsL t.length).length = M at *
        obtain ⟨ga, capa, rfl, hga⟩ := own_form3 hva (by omega)
        have hl5 := HT5.out.lt
        have hs5 := (row_block HS5.out).choose_spec.2
        have G0 : Grows w.heap.size Bx go 1 gf gb wc.heap.size ga capa N M (ordL t (bfs t l 0)) (fromL t (bfs t l 0)) (byL t (bfs t l 0)) (seenL t (bfs t l 0)) (deedsL t.length) w6 := by
          rw [show bfs t l 0 = [(l, [], [])] from rfl, ord_start, from_start, by_start, seen_start, ← NN.out, ← NL.out]
          exact ⟨HT5.out.below hb6, row_keep HS5.out (hb6.block _ (Array.getElem?_eq_some_iff.1 hs5).1), own_base hva HB5.out.size, by omega⟩
        have HG0 := Lib.hid G0
        have HB6 := Lib.hid (HB5.out.trans (hb6.mono HB5.out.size))
        have HM := Lib.hid hM
        clear G0 hva hb6 hs5 hl5 hM hga HT5 HS5 HB5 HT4 HS4 HB4 HT0 HBC
        go_wp2
        go_loopw [10] (fun i wr => ∃ k go' cap' : Nat, k ≤ (full t l).length ∧ i = .int .i64 k ∧ Grows w.heap.size Bx go' cap' gf gb wc.heap.size ga capa N M (ordL t (bfs t l k)) (fromL t (bfs t l k)) (byL t (bfs t l k)) (seenL t (bfs t l k)) (deedsL t.length) wr ∧ Below w.heap.size w wr) (fun i _ => N - (intOf i).toNat)
        case atStart => exact ⟨0, go, 1, Nat.zero_le _, rfl, HG0.out, HB6.out⟩
        case round =>
          clear HG0 HB6
          obtain ⟨k, go', cap', hk, rfl, G, hbel⟩ := hrel
          obtain ⟨wo, rfl⟩ : ∃ wo : World, wo = wr := ⟨_, rfl⟩
          have c4 := G.tree.cells
          have b0 := c4.1
          rw [ordL_len] at b0
          have hk28 : k ≤ 28561 := by have := full_le ht hl; have := sizeR_le ht; omega
          by_cases hlt : k < (bfs t l k).length
          · have oi := G.tree.ord (i := k) (by rw [ordL_len]; exact hlt)
            rw [ordL_at hlt] at oi
            have GD := Lib.hid (bfs_at ht hl k)
            have hxm := getD_mem hlt noE
            have hxl := GD.out.good.lev _ hxm
            have HPX := Lib.hid (full_prefix ht hl k)
            have HBS := Lib.hid (show bfs t l (k + 1) = (deedsL t.length).foldl (stepE t ((bfs t l k).getD k noE)) (bfs t l k) by rw [bfs, if_pos hlt]; rfl)
            have HKF := Lib.hid (show k + 1 ≤ (full t l).length by have := HPX.out.length_le; omega)
            have HIN := Lib.hid (fun q (hq : q ≤ M) => grow_in ht GD.out hlt (q := q))
            have HXM := Lib.hid hxm
            have HXL := Lib.hid hxl
            have HLT := Lib.hid hlt
            generalize hX : (bfs t l k).getD k noE = x at *
            have HX := Lib.hid hX
            have RL := Lib.hid (rLevels_own _ t x.1 wo (V.out.below hbel) ht HXL.out)
            have HG := Lib.hid G
            have hgo := G.tree.lt
            have hgn := G.lt
            generalize hnx : numR t x.1 = nx at *
            have HNX := Lib.hid hnx
            clear G c4 hX hxm hxl hnx hlt
            have hlt' : (k : Int) < ((bfs t l k).length : Int) := by have := HLT.out; omega
            go_wp2_with fail
            refine RL.out.mono ?_
            rintro e w7 ⟨rfl, hO7, hb7⟩
            have HG7 := Lib.hid (HG.out.below hb7)
            have HB7 := Lib.hid (hbel.trans (hb7.mono hbel.size))
            have HN7 := Lib.hid (show NowAt w.heap.size wo.heap.size go' gf t.length x.1 w7 from ⟨own_base (by have h := hO7.row; rw [HXL.out.1] at h; exact h) hbel.size, by omega, by omega⟩)
            clear hO7 hb7 RL HG b0 oi hbel hgo hgn
            go_wp2
            go_loopw [12] (fun j wr => ∃ q go2 cap2 : Nat, q ≤ M ∧ j = .int .i64 q ∧ Grows w.heap.size Bx go2 cap2 gf gb wc.heap.size ga capa N M (ordL t (roundE t x (bfs t l k) q)) (fromL t (roundE t x (bfs t l k) q)) (byL t (roundE t x (bfs t l k) q)) (seenL t (roundE t x (bfs t l k) q)) (deedsL t.length) wr ∧ NowAt w.heap.size wo.heap.size go2 gf t.length x.1 wr ∧ Below w.heap.size w wr) (fun j _ => M - (intOf j).toNat)
            case atStart => exact ⟨0, go', cap', Nat.zero_le _, rfl, HG7.out, HN7.out, HB7.out⟩
            case round =>
              clear HG7 HN7 HB7
              obtain ⟨q, go2, cap2, hq, rfl, G, hnow, hbel⟩ := hrel
              by_cases hqM : q < M
              · have hqM' : (q : Int) < (M : Int) := by omega
                have HI := HIN.out q hq
                have HGD := Lib.hid HI.1
                have HPF := Lib.hid HI.2
                have RS := Lib.hid (roundE_succ (t := t) (x := x) (es := bfs t l k) (q := q) (by rw [HM.out]; exact hqM))
                clear HI
                generalize roundE t x (bfs t l k) q = es at *
                have hke : k < es.length := by have := HPF.out.length_le; have := HLT.out; omega
                have HXE := Lib.hid (show es.getD k noE = x by rw [prefix_getD HPF.out HLT.out]; exact HX.out)
                have hd := mem_deedsL.1 (getD_mem (show q < (deedsL t.length).length by rw [HM.out]; exact hqM) noDeed)
                obtain ⟨k1, k2, k3⟩ := flatD_at (deedsL t.length) q (by rw [HM.out]; exact hqM)
                have a0 := (G.all.cellAt (q * 3) (by omega)).trans k1
                have a1 := (G.all.cellAt (q * 3 + 1) (by omega)).trans k2
                have a2 := (G.all.cellAt (q * 3 + 2) (by omega)).trans k3
                clear k1 k2 k3
                generalize hdd : (deedsL t.length).getD q noDeed = d at *
                obtain ⟨d1, d2, d3⟩ := d
                have HDD := Lib.hid hdd
                clear hdd
                simp only at a0 a1 a2
                have hnw : IntsAt wr (.slice (some ⟨wo.heap.size, 0, none⟩) t.length t.length) x.1 := by
                  have h := hnow.row
                  rw [← HXL.out.1] at h ⊢
                  exact own_ints h (by rw [HXL.out.1]; omega)
                have DN := Lib.hid (rDone_any _ _ t x.1 (d1, d2, d3) wr (V.out.below hbel) ht hnw HXL.out hd)
                simp only [deedV] at DN
                have hlev := doneL_lev ht HXL.out hd
                have SA := Lib.hid (seenL_at HGD.out hlev)
                have hnN := numR_lt hlev
                rw [← NN.out] at hnN
                have HLEV := Lib.hid hlev
                have HD := Lib.hid hd
                have HG := Lib.hid G
                have HNW := Lib.hid hnow
                have HBL := Lib.hid hbel
                generalize hnd : doneL t x.1 (d1, d2, d3) = nd at *
                have HND := Lib.hid hnd
                clear hnd hlev hd G hnow hbel hnw
                go_wp2_with fail
                refine DN.out.mono ?_
                rintro e w8 ⟨vn, rfl, hvn, hb8, _⟩
                have RN8 := Lib.hid (rNumber_any _ vn t nd w8 ((V.out.below HBL.out).below hb8) hvn ht HLEV.out)
                generalize hnn : numR t nd = nn at *
                have HNN := Lib.hid hnn
                clear hnn
                go_wp2_with fail
                refine RN8.out.mono ?_
                rintro e w9 ⟨rfl, hb9⟩
                have hb10 := below_trans hb8 hb9
                have G9 := HG.out.below hb10
                have now9 := HNW.out.keep (hb10.block _ HNW.out.lt) (.inl rfl)
                have bel9 := HBL.out.trans (hb10.mono HBL.out.size)
                obtain ⟨b0, b1, b2, fz, oi, fi, ff, _, _, sn, fs, _, _, _⟩ := G9.facts ((fromL_len t es).trans NN.out.symm) ((byL_len t es).trans NN.out.symm) ((seenL_len t es).trans NN.out.symm) HM.out (i := k) (k := q) (n := nn) (by rw [ordL_len]; exact hke) hqM hnN
                have HG9 := Lib.hid G9
                have HN9 := Lib.hid now9
                have HB9 := Lib.hid bel9
                clear G9 now9 bel9 hb8 hb9 hb10 hvn DN RN8 HG HNW HBL a0 a1 a2
                by_cases hm : nd ∈ es.map (fun e : Ent => e.1)
                · rw [SA.out, decide_eq_true hm] at sn
                  have RSE := Lib.hid (show roundE t x (bfs t l k) (q + 1) = es by
                    rw [RS.out]
                    unfold stepE
                    rw [HND.out, if_pos hm])
                  clear hm SA RS b0 b1 b2 oi fi
                  go_wp2
                  go_roundw
                  case rel => exact ⟨q + 1, go2, cap2, by omega, by go_num, by rw [RSE.out]; exact HG9.out, HN9.out, HB9.out⟩
                  case measure => simp [intOf]; omega
                · rw [SA.out, decide_eq_false hm] at sn
                  have RSE := Lib.hid (show roundE t x (bfs t l k) (q + 1) = es ++ [(nd, x.2.1 ++ [(d1, d2, d3)], x.1)] by
                    rw [RS.out]
                    unfold stepE
                    rw [HND.out, if_neg hm])
                  clear hm SA RS b0 b1 b2 oi fi
                  go_wp2
                  have G10 := HG9.out.setSeen nn
                  have now10 := HN9.out.keep (W' := w9.setCell ⟨wc.heap.size, nn, none⟩ (.bool true)) (Below.heap_setCell _ _ _ _ (row_ne HN9.out.row HG9.out.seen (by decide))) (.inl rfl)
                  have bel10 := HB9.out.setCell (p := ⟨wc.heap.size, nn, none⟩) HG9.out.lt.2.2 (.bool true)
                  have HG10 := Lib.hid G10
                  have HN10 := Lib.hid now10
                  have HB10 := Lib.hid bel10
                  clear G10 now10 bel10 sn fs ff fz HG9 HN9 HB9
                  generalize w9.setCell ⟨wc.heap.size, nn, none⟩ (.bool true) = w10 at *
                  obtain ⟨b0, b1, _, _, oi, fi, ff, _, _, _, _, _, _, _⟩ := HG10.out.facts ((fromL_len t es).trans NN.out.symm) ((byL_len t es).trans NN.out.symm) (by rw [List.length_set, seenL_len, NN.out]) HM.out (i := k) (k := q) (n := nn) (by rw [ordL_len]; exact hke) hqM hnN
                  rw [ordL_len] at b0
                  rw [ordL_at hke, HXE.out, HNX.out] at oi
                  have hke' : (k : Int) < (es.length : Int) := by omega
                  generalize (fromL t es).getD nn 0 = y0 at fi
                  go_region
                  go_wp2_with fail
                  have G11 := HG10.out.setFrom nn nx
                  have now11 := HN10.out.keep (W' := (w10.setCell ⟨gf, nn, none⟩ (.int .i64 nx)).drew) (Below.heap_setCell _ _ _ _ HN10.out.n2) (.inl rfl)
                  have bel11 := (HB10.out.setCell (p := ⟨gf, nn, none⟩) HG10.out.tree.lt.2.2.2.2.2.1 (.int .i64 nx)).drew
                  have HG11 := Lib.hid (show Grows w.heap.size Bx go2 cap2 gf gb wc.heap.size ga capa N M (ordL t es) ((fromL t es).set nn nx) (byL t es) ((seenL t es).set nn true) (deedsL t.length) (w10.setCell ⟨gf, nn, none⟩ (.int .i64 nx)).drew from ⟨G11.tree.block (fun _ _ => rfl), row_keep G11.seen rfl, row_keep G11.all rfl, G11.na⟩)
                  have HN11 := Lib.hid now11
                  have HB11 := Lib.hid bel11
                  clear G11 now11 bel11 b0 b1 oi fi ff HG10 HN10 HB10
                  generalize (w10.setCell ⟨gf, nn, none⟩ (.int .i64 nx)).drew = w11 at *
                  obtain ⟨b0, _, b2, _, _, _, _, ⟨x0, x1, x2, e0, e1, e2⟩, ⟨q0, q1, q2⟩, _, _, a0, a1, a2⟩ := HG11.out.facts (by rw [List.length_set, fromL_len, NN.out]) ((byL_len t es).trans NN.out.symm) (by rw [List.length_set, seenL_len, NN.out]) HM.out (i := k) (k := q) (n := nn) (by rw [ordL_len]; exact hke) hqM hnN
                  rw [HDD.out] at a0 a1 a2
                  simp only at a0 a1 a2
                  clear b0
                  go_region
                  have G12 := HG11.out.setBy nn (d1, d2, d3) (by rw [byL_len, ← NN.out]; exact hnN)
                  have now12 := HN11.out.keep (W' := (((w11.setCell ⟨gb, nn * 3, none⟩ (.int .i64 d1)).setCell ⟨gb, nn * 3 + 1, none⟩ (.int .i64 d2)).setCell ⟨gb, nn * 3 + 2, none⟩ (.int .i64 d3)).drew) (((Below.heap_setCell _ _ _ _ (row_ne HN11.out.row HG11.out.tree.rb (by decide))).trans (Below.heap_setCell _ _ _ _ (row_ne HN11.out.row HG11.out.tree.rb (by decide)))).trans (Below.heap_setCell _ _ _ _ (row_ne HN11.out.row HG11.out.tree.rb (by decide)))) (.inl rfl)
                  have hgb := HG11.out.tree.lt.2.2.2.2.2.2
                  have bel12 := (((HB11.out.setCell (p := ⟨gb, nn * 3, none⟩) hgb (.int .i64 d1)).setCell (p := ⟨gb, nn * 3 + 1, none⟩) hgb (.int .i64 d2)).setCell (p := ⟨gb, nn * 3 + 2, none⟩) hgb (.int .i64 d3)).drew
                  have HG12 := Lib.hid (show Grows w.heap.size Bx go2 cap2 gf gb wc.heap.size ga capa N M (ordL t es) ((fromL t es).set nn nx) ((byL t es).set nn (d1, d2, d3)) ((seenL t es).set nn true) (deedsL t.length) (((w11.setCell ⟨gb, nn * 3, none⟩ (.int .i64 d1)).setCell ⟨gb, nn * 3 + 1, none⟩ (.int .i64 d2)).setCell ⟨gb, nn * 3 + 2, none⟩ (.int .i64 d3)).drew from ⟨G12.tree.block (fun _ _ => rfl), row_keep G12.seen rfl, row_keep G12.all rfl, G12.na⟩)
                  have HN12 := Lib.hid now12
                  have HB12 := Lib.hid bel12
                  clear G12 now12 bel12 b2 e0 e1 e2 q0 q1 q2 a0 a1 a2 HG11 HN11 HB11
                  generalize (((w11.setCell ⟨gb, nn * 3, none⟩ (.int .i64 d1)).setCell ⟨gb, nn * 3 + 1, none⟩ (.int .i64 d2)).setCell ⟨gb, nn * 3 + 2, none⟩ (.int .i64 d3)).drew = w12 at *
                  obtain ⟨i0, hi0, hz0, hz1, hz2⟩ := info_parts Try.infoInt
                  have b0 := HG12.out.tree.cells.1
                  have fz := HG12.out.tree.cells.2.2.2 0
                  have ro := HG12.out.tree.ro
                  rw [ordL_len] at b0 ro
                  have hbx := HG12.out.tree.lt.1
                  have hel : es.length ≤ 28561 := by have h1 := good_len HGD.out; have h2 := sizeR_le ht; omega
                  have bl12 := HB12.out.size
                  have EN := Lib.hid (show ordL t es ++ [((nn : Nat) : Int)] = ordL t (roundE t x (bfs t l k) (q + 1)) ∧ (fromL t es).set nn nx = fromL t (roundE t x (bfs t l k) (q + 1)) ∧ (byL t es).set nn (d1, d2, d3) = byL t (roundE t x (bfs t l k) (q + 1)) ∧ (seenL t es).set nn true = seenL t (roundE t x (bfs t l k) (q + 1)) by
                    rw [RSE.out, ord_new, from_new, by_new, seen_new, HNN.out, HNX.out]
                    exact ⟨rfl, rfl, rfl, rfl⟩)
                  go_wp2_with (at_builtin; refine wpList_append_lies _ rfl _ _ 29 rfl w.heap.size 3 i0 (.int .i64 0) 1 8 Try.underlying29 hi0 hz0 hz1 hz2 rfl (by decide) _ _ _ rfl (ro.alloc _) ⟨w12.heap.size, 0, none⟩ 1 1 [.int .i64 nn] rfl rfl ?c1 ?c2 (by decide) ?c3 ?c4 ?c5 (w12.heap.size + 1) (by simp) ?_)
                  case c1 => exact cell1_new _ _ _ rfl
                  case c2 => intro u hu; simp at hu; subst hu; rfl
                  case c3 => unfold maxLen; omega
                  case c4 => omega
                  case c5 => simp; omega
                  intro g' cap' w13 hown13 hg13 hat13 hlt13
                  have hap := HG12.out.app (x := nn) (by rw [ordL_len]; exact hown13) hg13 hat13
                  have htr := HG12.out.tree.app (x := nn) (by rw [ordL_len]; exact hown13) hg13 hat13
                  rw [ordL_len] at hap htr
                  have b13 := htr.2.2.1
                  have f13 := htr.2.2.2.1
                  have hsz := htr.2.2.2.2
                  have HK := Lib.hid htr.2.1
                  have HAP := Lib.hid hap
                  have HB13 := Lib.hid (show Below w.heap.size w w13 from (HB12.out.alloc HB12.out.size _).grown hg13 (by simp; omega) (fun i e => by have := HG12.out.tree.lt.2.2.2.2.1; simp [Value.ownBlock] at e; omega))
                  have HGO := Lib.hid (show g' = go2 ∨ w12.heap.size ≤ g' by
                    rcases hat13 with h | h
                    · left; simpa [Value.ownBlock] using h.symm
                    · right; omega)
                  clear hap htr hown13 hg13 hat13 hlt13 b0 fz ro
                  go_wp2
                  go_roundw
                  case rel =>
                    refine ⟨q + 1, g', cap', by omega, by go_num, ?_, ?_, HB13.out.setCell (p := ⟨Bx, 0, none⟩) HG12.out.tree.hx _⟩
                    · rw [← EN.out.1, ← EN.out.2.1, ← EN.out.2.2.1, ← EN.out.2.2.2]
                      exact HAP.out
                    · exact HN12.out.keep (HK.out _ HN12.out.lt HN12.out.n1 (row_ne_box HN12.out.row HG12.out.tree.bx (by decide))) HGO.out
                  case measure => simp [intOf]; omega
              · obtain rfl : q = M := by omega
                have RE := Lib.hid (show roundE t x (bfs t l k) q = bfs t l (k + 1) by rw [HBS.out, ← HM.out, roundE_end])
                rw [RE.out] at G
                have HG := Lib.hid G
                clear G
                go_wp2
                go_roundw
                case rel => exact ⟨k + 1, go2, cap2, HKF.out, by go_num, HG.out, hbel⟩
                case measure => have h1 := HKF.out; have h2 := full_le ht hl; have h3 := NN.out; simp [intOf]; omega
          · have E := Lib.hid (full_eq ht hl (i := k) (by omega))
            rw [E.out] at G
            have HG := Lib.hid G
            clear G c4
            go_wp2
            go_ret
            exact ⟨Bx, go', cap', gf, gb, rfl, by rw [← NN.out]; exact HG.out.tree, hbel⟩

end Go.Proofs.Ytikcpfpeoofppaa
