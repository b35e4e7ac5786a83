/- Contracts: which deeds change levels (Ways of the program). -/
import Derived.Test.YtikcpfpeoofppaaSf
import Derived.Test.YtikcpfpeoofppaaNs
namespace Go.Proofs.Ytikcpfpeoofppaa
open Go.RowKit Go.Shelf

attribute [local go_sem] Oper.semAt_some


/-- The deeds that change levels. -/
def waysF (t l : List Int) (ds : List Deed) : List Deed := ds.filter fun d => !decide (doneL t l d = l)
theorem waysF_snoc (t l : List Int) (ds : List Deed) (d : Deed) : waysF t l (ds ++ [d]) = waysF t l ds ++ (if doneL t l d = l then [] else [d]) := by
  unfold waysF
  rw [List.filter_append]
  by_cases h : doneL t l d = l <;> simp [h]
theorem waysF_len (t l : List Int) (ds : List Deed) : (waysF t l ds).length ≤ ds.length := List.length_filter_le _ _
def wyE (t l : List Int) : Int := askE t [l]
def wyL (t l : List Int) : List Deed := if askE t [l] = 0 then waysF t l (deedsL t.length) else []

/-- What the append keeps. -/
theorem Kq.appended {W w1 : World} {n₀ B : Nat} {t e : TypeId} {size : Nat} {v v' : Value} {k : Nat} {xs : List Value} {tmp : Obj}
    (hv : Boxed W B t v) (hrow : W.ownsRow n₀ e size v k xs) (hgrow : (W.alloc tmp).grownBy w1 v.ownBlock) (ht : t ≠ 3 ∧ t ≠ 29) (he : e ≠ 3 ∧ e ≠ 29) : Kq W (w1.setCell ⟨B, 0, none⟩ v') := fun b cur e' fr hor hb => by
  have hlt := (Array.getElem?_eq_some_iff.1 hb).1
  have hbB : b ≠ B := by
    rintro rfl
    have h1 := hb.symm.trans (show W.heap[b]? = _ from hv)
    simp only [Option.some.injEq, Obj.cells.injEq] at h1
    rcases hor with rfl | rfl
    · exact ht.1 h1.2.1.symm
    · exact ht.2 h1.2.1.symm
  have hbg : some b ≠ v.ownBlock := by
    rcases hrow.2 with ⟨rfl, _⟩ | ⟨g, cap, cur2, rfl, _, hgb, _⟩
    · simp [Value.ownBlock]
    · intro e2
      obtain rfl : b = g := by simpa [Value.ownBlock] using e2
      have h1 := hb.symm.trans hgb
      simp only [Option.some.injEq, Obj.cells.injEq] at h1
      rcases hor with rfl | rfl
      · exact he.1 h1.2.1.symm
      · exact he.2 h1.2.1.symm
  refine (Below.heap_setCell _ _ _ b hbB).trans ((hgrow.block b (by simp; omega) (fun e2 => hbg e2)).trans ?_)
  exact (Below.heap_alloc _ _ _ (by omega)).trans hb

/-- The frame in a round. -/
def wyBody (n0 B6 B8 p : Nat) (u : Nat → Value) : Act :=
  { tmps := #[(u 0), (u 1), .pointer (some ⟨n0, 0, none⟩), (u 3), (u 4), (u 5), .pointer (some ⟨B6, 0, none⟩), (u 7), .pointer (some ⟨B8, 0, none⟩), .pointer (some ⟨p, 0, none⟩), (u 10), (u 11), (u 12), (u 13), (u 14), (u 15), (u 16), (u 17), (u 18), (u 19), (u 20), (u 21), (u 22), (u 23), (u 24), (u 25), (u 26), (u 27), (u 28), (u 29), (u 30), (u 31), (u 32), (u 33), (u 34), (u 35), (u 36), (u 37)], defers := [] }
theorem wyBody_ex {a' : Act} {n0 B6 B8 p : Nat} (h : a' = wyBody n0 B6 B8 p (fun k => a'.tmps.getD k undef)) : ∃ u, a' = wyBody n0 B6 B8 p u := ⟨_, h⟩

set_option maxRecDepth 100000 in
set_option maxHeartbeats 20000000 in
theorem tWays_in (v y : Value) (t l : List Int) (w : World) (hv : IntsAt w v t) (hy : IntsAt w y l) (hask : askE t [l] = 0) :
    CallsIn Fence.wide 4 Try.prog 32 #[v, y] w (GivesDE (wyL t l) (wyE t l) w) := by
  have V := Lib.hid hv
  obtain ⟨va, vcap, rfl, _⟩ := hv
  have Y := Lib.hid hy
  obtain ⟨ya, ycap, rfl, _⟩ := hy
  have hb1 : Below w.heap.size w (w.alloc (.cells #[.slice va t.length vcap] 29)) := (Below.refl _ w).alloc (Nat.le_refl _) _
  have c1 : (w.alloc (.cells #[.slice va t.length vcap] 29)).cell? ⟨w.heap.size, 0, none⟩ = some (.slice va t.length vcap) := by simp
  have C1 := Lib.hid c1
  have hB2 := (Below.refl (w.alloc (.cells #[.slice va t.length vcap] 29)).heap.size (w.alloc (.cells #[.slice va t.length vcap] 29))).alloc (Nat.le_refl _) (.cells #[.slice ya l.length ycap] 29)
  have A := Lib.hid (asked2_any (.slice va t.length vcap) _ t [l] _ ((V.out.below hb1).below hB2) (ints_one (t := 29) (Y.out.below hb1)) (by simp))
  have HB1 := Lib.hid hb1
  have HB2 := Lib.hid (hb1.trans (hB2.mono hb1.size))
  have AZ := askE_zero hask
  have HT := Lib.hid AZ.1
  have HL := Lib.hid AZ.2
  have HE := Lib.hid (show wyE t l = 0 from hask)
  have HWL := Lib.hid (show wyL t l = waysF t l (deedsL t.length) by unfold wyL; rw [if_pos hask])
  rw [hask] at A
  simp only [World.size_alloc] at A
  clear hb1 hB2 AZ hask c1
  refine callsIn_of_wp_marks Try.func32 rfl trivial ?_ rfl
  simp only [Try.ntmps32, List.size_toArray, List.length_cons, List.length_nil, Nat.reduceAdd, Nat.reduceSub, Array.replicate_succ, Array.replicate_zero, List.push_toArray, List.append_toArray, List.nil_append, List.cons_append]
  gi_wp2_with fail
  refine ⟨trivial, callsIn_wide.2 (A.out.mono ?_)⟩
  rintro e w2 ⟨ov, rfl, hov, _, hb2⟩
  have hrow := hov (by first | trivial | rfl)
  obtain ⟨g, cap, rfl⟩ : ∃ g cap, ov = .slice (some ⟨g, 0, none⟩) 1 cap := by
    rcases hrow.2 with ⟨_, h⟩ | ⟨g, cap, cur, h, _⟩
    · simp at h
    · exact ⟨g, cap, h⟩
  have hcell : ∀ c, c < 4 → w2.cell? ⟨g, c, none⟩ = some (.int .i64 (l.getD c 0)) := fun c hc => by
    have h1 := hrow.cellAt c (by simp; omega)
    rw [h1]
    have := flatP_at [l] 0 c (by simp) hc
    simpa using this
  have hb2' : Below w.heap.size w w2 := HB2.out.trans (hb2.mono (by omega))
  have ct := (hb2.cell (p := ⟨w.heap.size, 0, none⟩) (by show w.heap.size < _; omega)).trans (keep_cell ((Below.refl _ _).alloc (Nat.le_refl _) _) C1.out)
  have ct2 : ((w2.alloc (.cells #[.slice (some ⟨g, 0, none⟩) 1 cap] 82)).alloc (.cells #[.slice none 0 0] 22)).cell? ⟨w.heap.size, 0, none⟩ = some (.slice va t.length vcap) := keep_cell (((Below.refl w2.heap.size w2).alloc (Nat.le_refl _) _).alloc (by simp) _) ct
  have HB := Lib.hid hb2'
  have HC := Lib.hid hcell
  have HV := Lib.hid (V.out.below hb2')
  clear hrow hcell hov hb2 hb2' A C1 HB1 HB2
  gi_wp2_with fail
  refine ⟨trivial, (deeds_in Fence.wide 3 trivial rfl _ _ _ _).mono ?_⟩
  rintro e w' ⟨rfl, rfl⟩
  gi_wp2_with fail
  obtain ⟨w5, hw5⟩ : ∃ w5, w5 = ((w2.alloc (.cells #[.slice (some ⟨g, 0, none⟩) 1 cap] 82)).alloc (.cells #[.slice none 0 0] 22)).alloc (.cells #[.slice va t.length vcap] 29) := ⟨_, rfl⟩
  rw [← hw5]
  have hz5 : w5.heap.size = w2.heap.size + 3 := by rw [hw5]; simp
  have k6 : w5.heap[w2.heap.size]? = some (.cells #[.slice (some ⟨g, 0, none⟩) 1 cap] 82 (0, 0)) := by
    rw [hw5]
    refine (Below.heap_alloc _ _ _ (by simp; omega)).trans ((Below.heap_alloc _ _ _ (by simp)).trans (World.alloc_heap_new w2 _))
  have k8 : Boxed w5 (w2.heap.size + 1) 22 (.slice none 0 0) := by
    rw [hw5]
    have := Boxed.new (w2.alloc (.cells #[.slice (some ⟨g, 0, none⟩) 1 cap] 82)) 22 (.slice none 0 0)
    rw [World.size_alloc] at this
    exact this.alloc _
  have kt : w5.heap[w2.heap.size + 2]? = some (.cells #[.slice va t.length vcap] 29 (0, 0)) := by
    rw [hw5]
    have := World.alloc_heap_new ((w2.alloc (.cells #[.slice (some ⟨g, 0, none⟩) 1 cap] 82)).alloc (.cells #[.slice none 0 0] 22)) (.cells #[.slice va t.length vcap] 29)
    rwa [World.size_alloc, World.size_alloc] at this
  have hB5 : Below w2.heap.size w2 w5 := by rw [hw5]; exact (((Below.refl _ w2).alloc (Nat.le_refl _) _).alloc (by simp) _).alloc (by simp; omega) _
  have ct5 := keep_cell hB5 ct
  have hc5 : ∀ c, c < 4 → w5.cell? ⟨g, c, none⟩ = some (.int .i64 (l.getD c 0)) := fun c h => keep_cell hB5 (HC.out c h)
  have hx5 : w5.cell? ⟨w2.heap.size, 0, none⟩ = some (.slice (some ⟨g, 0, none⟩) 1 cap) := by simp [World.cell?, k6]
  have HB5 := Lib.hid hB5
  have CT5 := Lib.hid ct5
  have HC5 := Lib.hid hc5
  have HX5 := Lib.hid hx5
  have HG : Hid (g < w2.heap.size ∧ w.heap.size < w2.heap.size) := Lib.hid ⟨World.block_lt_of_cell? _ _ (HC.out 0 (by omega)), World.block_lt_of_cell? _ _ ct⟩
  obtain ⟨i0, hi0, hq0, hq1, hq2⟩ := info_parts Try.infoDeed
  clear hw5 k6 hB5 ct5 hc5 hx5 ct HC
  have h14 : 1 ≤ 4 := by omega
  refine wpIn_rangeFunc_ownH rfl h14 (gf := 88) (lb := #[.pointer (some ⟨w2.heap.size + 2, 0, none⟩)]) rfl trivial (enters_of Try.func88 (by kernel_rfl) rfl)
    (deeds_stops_q Fence.wide 3 trivial rfl (by omega) (w2.heap.size + 2) va t.length vcap HT.out.hi w5 kt) Kq.trans (fun W l o o' hl hh hcc hw => Kq.put W l o o' hh hcc) (Below.refl _ _) (fun _ => rfl)
    (fun pre W' => HoldsD (w2.heap.size + 1) (waysF t l (pre.map Subtype.val)) W' ∧ Below (w2.heap.size + 1) w5 W')
    (fun _ _ _ => False)
    (OwnFrom.and (Own.from (fun s X Y row hs hg hr => HoldsD.own (w2.heap.size + 1) (waysF t l (s.map Subtype.val)) X Y row hs hg hr) _) (ownFrom_below (by omega) (by omega)))
    (fun _ _ _ _ _ hs _ _ => hs)
    ⟨⟨_, k8, World.ownsRow_nil _ _ _ _⟩, Below.refl _ _⟩
    (fun d a' W' => ∃ p, VarD w5.heap.size d.1 p W' ∧ ∃ u, a' = wyBody w.heap.size w2.heap.size (w2.heap.size + 1) p u)
    (fun x a' s W W' row hs hg hr => by obtain ⟨p, hp, e⟩ := hs; exact ⟨p, VarD.own x.1 p _ () W W' row hp hg hr, e⟩) ?assign ?body ?done ?stop
  case assign =>
    rintro rl pre ⟨⟨x1, x2, x3⟩, hx⟩ W' K hI hK
    simp only [deedV]
    have hz7 := hI.2.size
    have hal7 : Below W'.heap.size W' (W'.alloc (.cells #[.int .i64 x1, .int .i64 x2, .int .i64 x3] 43)) := (Below.refl _ W').alloc (Nat.le_refl _) _
    have R1 : Hid ((HoldsD (w2.heap.size + 1) (waysF t l (pre.map Subtype.val)) (W'.alloc (.cells #[.int .i64 x1, .int .i64 x2, .int .i64 x3] 43))) ∧ Below (w2.heap.size + 1) w5 (W'.alloc (.cells #[.int .i64 x1, .int .i64 x2, .int .i64 x3] 43))) :=
      Lib.hid ⟨(Own.from (HoldsD.own (w2.heap.size + 1)) (w2.heap.size + 1)).alloc _ hI.1, hI.2.trans (hal7.mono (by omega))⟩
    have HI7 := Lib.hid hI
    have HAL := Lib.hid hal7
    clear hI hal7
    gi_wp2
    exact hK _ _ ((KeepsOthers.alloc W' _).from _) (Kq.below HAL.out) R1.out ⟨W'.heap.size, ⟨hz7, World.alloc_heap_new W' _⟩, wyBody_ex rfl⟩
  case body =>
    rintro rl pre ⟨⟨x1, x2, x3⟩, hxd⟩ a' W' hrl hlo ⟨⟨v, hv, hrow⟩, hbw⟩ ⟨p, ⟨hp0, hp⟩, u, rfl⟩ hlt
    simp only at hp
    have hz5' : w5.heap.size ≤ W'.heap.size := hbw.size
    have kc : ∀ {b o : Nat} {x : Value}, b < w2.heap.size + 1 → w5.cell? ⟨b, o, none⟩ = some x → W'.cell? ⟨b, o, none⟩ = some x := fun {b o x} hb h => (hbw.cell (p := ⟨b, o, none⟩) hb).trans h
    have c0 := kc (by have := HG.out.2; omega) CT5.out
    have cx := kc (by omega) HX5.out
    have y0 := kc (by have := HG.out.1; omega) (HC5.out 0 (by omega))
    have y1 := kc (by have := HG.out.1; omega) (HC5.out 1 (by omega))
    have y2 := kc (by have := HG.out.1; omega) (HC5.out 2 (by omega))
    have y3 := kc (by have := HG.out.1; omega) (HC5.out 3 (by omega))
    have d0 : W'.cell? ⟨p, 0, none⟩ = some (.int .i64 x1) := by simp [World.cell?, hp]
    have d1 : W'.cell? ⟨p, 1, none⟩ = some (.int .i64 x2) := by simp [World.cell?, hp]
    have d2 : W'.cell? ⟨p, 2, none⟩ = some (.int .i64 x3) := by simp [World.cell?, hp]
    have hb2W : Below w2.heap.size w2 W' := HB5.out.trans (hbw.mono (by omega))
    have DC := Lib.hid (fun W3 (h : KB W' W3) => tDoes_any (.slice va t.length vcap) t l (x1, x2, x3) W3 (HV.out.below (hb2W.trans (h.mono hb2W.size))) HT.out HL.out hxd)
    have NL := Lib.hid (doneL_lev HT.out HL.out hxd)
    have TS := Lib.hid (show waysF t l ((pre ++ [(⟨(x1, x2, x3), hxd⟩ : DeedOf t.length)]).map Subtype.val) = waysF t l (pre.map Subtype.val) ++ (if doneL t l (x1, x2, x3) = l then [] else [(x1, x2, x3)]) by
      rw [List.map_append]; exact waysF_snoc t l _ _)
    have TL := Lib.hid (Nat.le_trans (waysF_len t l (pre.map Subtype.val)) (by simp; omega : (pre.map Subtype.val).length ≤ 24))
    have HQ := Lib.hid (fun W => eq_run HT.out NL.out HL.out W)
    unfold pad levV at HQ
    unfold pad levV deedV at DC
    simp only at DC
    generalize waysF t l (pre.map Subtype.val) = wl at *
    generalize doneL t l (x1, x2, x3) = nx at *
    generalize hbb : decide (nx = l) = bb at HQ
    generalize nx.getD 0 0 = z0 at *
    generalize nx.getD 1 0 = z1 at *
    generalize nx.getD 2 0 = z2 at *
    generalize nx.getD 3 0 = z3 at *
    generalize l.getD 0 0 = q0 at *
    generalize l.getD 1 0 = q1 at *
    generalize l.getD 2 0 = q2 at *
    generalize l.getD 3 0 = q3 at *
    have r0 : ∀ W3, KB W' W3 → W3.cell? ⟨w.heap.size, 0, none⟩ = some (.slice va t.length vcap) := fun W3 h => kb_cell h c0
    have rx : ∀ W3, KB W' W3 → W3.cell? ⟨w2.heap.size, 0, none⟩ = some (.slice (some ⟨g, 0, none⟩) 1 cap) := fun W3 h => kb_cell h cx
    have ra : ∀ W3, KB W' W3 → W3.cell? ⟨g, 0, none⟩ = some (.int .i64 q0) := fun W3 h => kb_cell h y0
    have rb : ∀ W3, KB W' W3 → W3.cell? ⟨g, 1, none⟩ = some (.int .i64 q1) := fun W3 h => kb_cell h y1
    have rc : ∀ W3, KB W' W3 → W3.cell? ⟨g, 2, none⟩ = some (.int .i64 q2) := fun W3 h => kb_cell h y2
    have rd : ∀ W3, KB W' W3 → W3.cell? ⟨g, 3, none⟩ = some (.int .i64 q3) := fun W3 h => kb_cell h y3
    have r1 : ∀ W3, KB W' W3 → W3.cell? ⟨p, 0, none⟩ = some (.int .i64 x1) := fun W3 h => kb_cell h d0
    have r2 : ∀ W3, KB W' W3 → W3.cell? ⟨p, 1, none⟩ = some (.int .i64 x2) := fun W3 h => kb_cell h d1
    have r3 : ∀ W3, KB W' W3 → W3.cell? ⟨p, 2, none⟩ = some (.int .i64 x3) := fun W3 h => kb_cell h d2
    have hHeld : KB W' W'.drew := Below.drew (Below.refl _ _)
    have HV1 := Lib.hid hv
    have HRW := Lib.hid hrow
    have HBW := Lib.hid hbw
    have HP1 := Lib.hid hp
    have HBB := Lib.hid hbb
    clear hv hrow hbw hp hbb hb2W kc c0 cx y0 y1 y2 y3 d0 d1 d2
    unfold wyBody
    gi_wp2_with fail
    refine region_round (fun W3 => KB W' W3) (by kernel_rfl) (by kernel_rfl) (fun _ _ h => h) ?_
    refine wpAnyH_take (i := 0) (v := .slice va t.length vcap) rfl (by kernel_rfl) (by kernel_rfl) (by kernel_rfl) (fun _ _ _ h => h) (Or.inl ⟨by rfl, fun W3 hS3 => ?take⟩) hHeld ?_
    case take => go_simp
    try simp only [Act.put, List.getElem_toArray, List.getElem_cons_zero, List.getElem_cons_succ, List.setIfInBounds_toArray, List.set_cons_zero, List.set_cons_succ]
    refine wpAnyH_take (i := 1) (v := .slice (some ⟨g, 0, none⟩) 1 cap) rfl (by kernel_rfl) (by kernel_rfl) (by kernel_rfl) (fun _ _ _ h => h) (Or.inl ⟨by rfl, fun W3 hS3 => ?take⟩) hHeld ?_
    case take => go_simp
    try simp only [Act.put, List.getElem_toArray, List.getElem_cons_zero, List.getElem_cons_succ, List.setIfInBounds_toArray, List.set_cons_zero, List.set_cons_succ]
    refine wpAnyH_take (i := 2) (v := .pointer (some ⟨g, 0, none⟩)) rfl (by kernel_rfl) (by kernel_rfl) (by kernel_rfl) (fun _ _ _ h => h) (Or.inl ⟨by rfl, fun W3 hS3 => ?take⟩) hHeld ?_
    case take => go_simp
    try simp only [Act.put, List.getElem_toArray, List.getElem_cons_zero, List.getElem_cons_succ, List.setIfInBounds_toArray, List.set_cons_zero, List.set_cons_succ]
    refine wpAnyH_take (i := 3) (v := .agg #[.int .i64 q0, .int .i64 q1, .int .i64 q2, .int .i64 q3]) rfl (by kernel_rfl) (by kernel_rfl) (by kernel_rfl) (fun _ _ _ h => h) (Or.inl ⟨by rfl, fun W3 hS3 => ?take⟩) hHeld ?_
    case take => go_simp
    try simp only [Act.put, List.getElem_toArray, List.getElem_cons_zero, List.getElem_cons_succ, List.setIfInBounds_toArray, List.set_cons_zero, List.set_cons_succ]
    refine wpAnyH_take (i := 4) (v := .agg #[.int .i64 x1, .int .i64 x2, .int .i64 x3]) rfl (by kernel_rfl) (by kernel_rfl) (by kernel_rfl) (fun _ _ _ h => h) (Or.inl ⟨by rfl, fun W3 hS3 => ?take⟩) hHeld ?_
    case take => go_simp
    try simp only [Act.put, List.getElem_toArray, List.getElem_cons_zero, List.getElem_cons_succ, List.setIfInBounds_toArray, List.set_cons_zero, List.set_cons_succ]
    refine wpAnyH_take (i := 6) (v := .slice (some ⟨g, 0, none⟩) 1 cap) rfl (by kernel_rfl) (by kernel_rfl) (by kernel_rfl) (fun _ _ _ h => h) (Or.inl ⟨by rfl, fun W3 hS3 => ?take⟩) hHeld ?_
    case take => go_simp
    try simp only [Act.put, List.getElem_toArray, List.getElem_cons_zero, List.getElem_cons_succ, List.setIfInBounds_toArray, List.set_cons_zero, List.set_cons_succ]
    refine wpAnyH_take (i := 7) (v := .pointer (some ⟨g, 0, none⟩)) rfl (by kernel_rfl) (by kernel_rfl) (by kernel_rfl) (fun _ _ _ h => h) (Or.inl ⟨by rfl, fun W3 hS3 => ?take⟩) hHeld ?_
    case take => go_simp
    try simp only [Act.put, List.getElem_toArray, List.getElem_cons_zero, List.getElem_cons_succ, List.setIfInBounds_toArray, List.set_cons_zero, List.set_cons_succ]
    refine wpAnyH_take (i := 8) (v := .agg #[.int .i64 q0, .int .i64 q1, .int .i64 q2, .int .i64 q3]) rfl (by kernel_rfl) (by kernel_rfl) (by kernel_rfl) (fun _ _ _ h => h) (Or.inl ⟨by rfl, fun W3 hS3 => ?take⟩) hHeld ?_
    case take => go_simp
    try simp only [Act.put, List.getElem_toArray, List.getElem_cons_zero, List.getElem_cons_succ, List.setIfInBounds_toArray, List.set_cons_zero, List.set_cons_succ]
    refine wpAnyH_ready (rs := [5]) (by kernel_rfl) (by simp) ?_
    refine AllReadyH.cons rfl (fun K hK => ?_) AllReadyH.nil
    go_simp
    refine (DC.out _ hHeld).mono ?_
    rintro e W7 ⟨rfl, hb7⟩
    have hk7 : KB W' W7 := hHeld.trans (hb7.mono hHeld.size)
    clear hHeld hb7
    go_wp2_with fail
    refine hK.out _ _ hk7 (fun hHeld => ?_)
    clear hK K
    try simp only [Act.put, List.getElem_toArray, List.getElem_cons_zero, List.getElem_cons_succ, List.setIfInBounds_toArray, List.set_cons_zero, List.set_cons_succ]
    have hq := HQ.out
    refine wpAnyH_ready (rs := [9]) (by kernel_rfl) (by simp) ?_
    refine AllReadyH.cons rfl (fun K hK => ?_) AllReadyH.nil
    go_simp
    refine hK.out _ _ hk7 (fun hHeld => ?_)
    clear hK K
    try simp only [Act.put, List.getElem_toArray, List.getElem_cons_zero, List.getElem_cons_succ, List.setIfInBounds_toArray, List.set_cons_zero, List.set_cons_succ]
    refine wpAnyH_done (by kernel_rfl) ?_ _
    simp only [Exit.then]
    have HK7 := Lib.hid hk7
    clear r0 rx ra rb rc rd r1 r2 r3 hHeld hk7 hq
    have hv7 : Boxed W7 (w2.heap.size + 1) 22 v := (HK7.out.block _ (Array.getElem?_eq_some_iff.1 (show W'.heap[w2.heap.size + 1]? = _ from HV1.out)).1).trans HV1.out
    have hrow7 := own_below HRW.out HK7.out
    have hb7 : Below (w2.heap.size + 1) w5 W7 := HBW.out.trans (HK7.out.mono (by omega))
    cases bb with
    | true =>
      rw [if_pos (of_decide_eq_true HBB.out), List.append_nil] at TS
      have R := Lib.hid (show HoldsD (w2.heap.size + 1) (waysF t l ((pre ++ [(⟨(x1, x2, x3), hxd⟩ : DeedOf t.length)]).map Subtype.val)) W7 from by rw [TS.out]; exact ⟨v, hv7, hrow7⟩)
      have HB7 := Lib.hid hb7
      clear hv7 hrow7 hb7
      gi_wp2
      exact ⟨KeepsFrom.ofBelow HK7.out, Kq.below HK7.out, R.out, HB7.out⟩
    | false =>
      rw [if_neg (of_decide_eq_false HBB.out)] at TS
      have hp7 : W7.heap[p]? = some (.cells #[.int .i64 x1, .int .i64 x2, .int .i64 x3] 43 (0, 0)) := (HK7.out.block p (Array.getElem?_eq_some_iff.1 HP1.out).1).trans HP1.out
      have d0 : W7.cell? ⟨p, 0, none⟩ = some (.int .i64 x1) := by simp [World.cell?, hp7]
      have d1 : W7.cell? ⟨p, 1, none⟩ = some (.int .i64 x2) := by simp [World.cell?, hp7]
      have d2 : W7.cell? ⟨p, 2, none⟩ = some (.int .i64 x3) := by simp [World.cell?, hp7]
      have hc := hv7.cell
      have HP7 := Lib.hid hp7
      have htl := TL.out
      have hz7 : w2.heap.size + 1 ≤ W7.heap.size := by have := hb7.size; omega
      clear hp7
      gi_wp2_with (gi_at_builtin; refine wpListIn_append_own _ rfl _ _ 22 rfl (w2.heap.size + 1) 43 i0 (.agg #[.int .i64 0, .int .i64 0, .int .i64 0]) 3 24 Try.underlying22 hi0 hq0 hq1 hq2 rfl (by decide) _ _ _ rfl (hrow7.alloc _) ⟨W7.heap.size, 0, none⟩ 1 1 [.int .i64 x1, .int .i64 x2, .int .i64 x3] rfl rfl (cell3_new _ _ _ _ _ rfl) (by simp [Value.oneCell']) (by unfold maxLen; omega) (by omega) (by simp; omega) ?_; intro v' w8 hown' hgrow _; obtain ⟨g', cap', rfl⟩ := ownsRow_succ hown'; have hkd := Kq.appended (v' := .slice (some ⟨g', 0, none⟩) (wl.length + 1) cap') hv7 hrow7 hgrow (by decide) (by decide); obtain ⟨hv1, hv2, hr2, hk2, hb2⟩ := hv7.appended (by decide) hrow7 hz7 (Nat.le_refl _) hown' hgrow; have hc1 := hv1.cell; have hf1 := hv1.frozen)
      exact ⟨(KeepsFrom.ofBelow HK7.out).trans (hk2.from _), Kq.trans (Kq.below HK7.out) hkd, ⟨_, hv2, by rw [TS.out, flatD_append, List.length_append]; exact hr2⟩, hb7.trans hb2⟩
  case done =>
    rintro D ys W' hD hys ⟨⟨v, hv, hrow⟩, hB⟩ hK
    rw [hys] at hrow
    have hc := hv.cell
    have HR := Lib.hid (show DeedsAt (W'.putObj D (.deferred none)) v (wyL t l) by
      rw [HWL.out]
      exact own_deeds (ownsRow_putObj hrow _ hK rfl) (Nat.le_trans (waysF_len _ _ _) (by have := deedsL_len HT.out.hi; omega)))
    have HBX : Hid (Below w.heap.size w (W'.putObj D (.deferred none))) := Lib.hid (HB.out.trans ((HB5.out.trans ((hB.mono (by omega)).trans (belowK_b (w := w2) (Nat.le_refl _) W' D _ _ (by omega) hK rfl rfl))).mono HB.out.size))
    have HKK := Lib.hid hK
    clear hys hrow hB hK
    gi_wp2
    refine ⟨by simp, .inl ⟨_, _, rfl, run_takeDeferred HKK.out, ?_⟩⟩
    exact ⟨_, results_tmp2 rfl _ _ _, v, by rw [HE.out]; rfl, HR.out, HBX.out⟩
  case stop =>
    rintro D c pre W _ _ h _
    exact h.elim

set_option maxHeartbeats 2000000 in
theorem tWays_any (v y : Value) (t l : List Int) (w : World) (hv : IntsAt w v t) (hy : IntsAt w y l) :
    Calls Try.prog 32 #[v, y] w (GivesDE (wyL t l) (wyE t l) w) := by
  by_cases hask : askE t [l] = 0
  · exact (callsIn_wide (n := 4)).1 (tWays_in v y t l w hv hy hask)
  · have V := Lib.hid hv
    obtain ⟨va, vcap, rfl, _⟩ := hv
    have Y := Lib.hid hy
    obtain ⟨ya, ycap, rfl, _⟩ := hy
    have hb1 : Below w.heap.size w (w.alloc (.cells #[.slice va t.length vcap] 29)) := (Below.refl _ w).alloc (Nat.le_refl _) _
    have hB2 := (Below.refl (w.alloc (.cells #[.slice va t.length vcap] 29)).heap.size (w.alloc (.cells #[.slice va t.length vcap] 29))).alloc (Nat.le_refl _) (.cells #[.slice ya l.length ycap] 29)
    have A := Lib.hid (asked2_any (.slice va t.length vcap) _ t [l] _ ((V.out.below hb1).below hB2) (ints_one (t := 29) (Y.out.below hb1)) (by simp))
    have HB2 := Lib.hid (hb1.trans (hB2.mono hb1.size))
    have HE := Lib.hid (show wyE t l = askE t [l] from rfl)
    have HWL := Lib.hid (show wyL t l = [] by unfold wyL; rw [if_neg hask])
    simp only [World.size_alloc] at A
    generalize askE t [l] = ae at *
    have hb : (ae != 0) = true := bne_iff_ne.2 hask
    have HA := Lib.hid hask
    clear hb1 hB2 hask
    go_enter Try.func32, Try.ntmps32
    go_wp2_with fail
    refine A.out.mono ?_
    rintro e w2 ⟨ov, rfl, _, hno, hb2⟩
    obtain rfl := hno HA.out
    have HB3 := Lib.hid (HB2.out.trans (hb2.mono (by omega)))
    clear hno hb2 A
    go_wp2
    refine bodyPost_ret (v := .tuple #[.slice none 0 0, .int .i64 ae]) (by simp [results, Try.results32, go_sem]) rfl ⟨_, by rw [HE.out], by rw [HWL.out]; exact deeds_nil _, by first | exact HB3.out | exact HB3.out.alloc HB3.out.size _⟩

end Go.Proofs.Ytikcpfpeoofppaa
