/- Contracts: all deeds as a list (slices.Collect of the iterator). -/
import Derived.Test.YtikcpfpeoofppaaJ
import Derived.Test.YtikcpfpeoofppaaF
namespace Go.Proofs.Ytikcpfpeoofppaa
open Go.RowKit Go.Shelf

attribute [local go_sem] Oper.semAt_some


set_option maxHeartbeats 1000000 in
theorem deeds_in (F : Fence) (n : Nat) (h5 : F.fn 70) (hro : F.round = none) (a : Option Addr) (len cap : Nat) (w : World) :
    CallsIn F n Try.prog 70 #[.slice a len cap] w fun e w' => e = .returned (.func (.func 88) #[] #[.pointer (some ⟨w.heap.size, 0, none⟩)]) ∧ w' = w.alloc (.cells #[.slice a len cap] 29) := by
  refine callsIn_of_wp Try.func70 rfl h5 ?_ hro
  simp only [Try.ntmps70, List.size_toArray, List.length_cons, List.length_nil, Nat.reduceAdd, Nat.reduceSub, Array.replicate_succ, Array.replicate_zero, List.push_toArray, List.append_toArray, List.nil_append, List.cons_append]
  gi_wp2
  go_ret
  exact ⟨rfl, rfl⟩

theorem deeds_any (a : Option Addr) (len cap : Nat) (w : World) :
    Calls Try.prog 70 #[.slice a len cap] w fun e w' => e = .returned (.func (.func 88) #[] #[.pointer (some ⟨w.heap.size, 0, none⟩)]) ∧ w' = w.alloc (.cells #[.slice a len cap] 29) :=
  (callsIn_wide (n := 4)).1 (deeds_in Fence.wide 4 trivial rfl a len cap w)

theorem deeds_stops (F : Fence) (n : Nat) (h7 : F.fn 88) (hro : F.round = none) (hn : 1 ≤ n) (Bs n0 : Nat) (a : Option Addr) (m cap : Nat) (hm : m ≤ 4) (hBs : Bs < n0) (w : World) (hn0 : n0 ≤ w.heap.size)
    (hc : w.cell? ⟨Bs, 0, none⟩ = some (.slice a m cap)) :
    SeqStopsK F n Try.prog 88 #[.pointer (some ⟨Bs, 0, none⟩)] (fun x : Deed => #[deedV x]) (Kd n0) (fun ys => ys = deedsL m) (fun _ => True) 24 w := fun l J Jx W hW hJ _ hY h0 =>
  deeds1_in F n h7 hro hn l Bs n0 a m cap hm hBs J Jx hY W (Nat.le_trans hn0 hW.size) hJ ((hW.cell (p := ⟨Bs, 0, none⟩) (Nat.lt_of_lt_of_le hBs hn0)).trans hc) h0

/-- The box of the list that grows. -/
def HoldsD (B : Nat) (pre : List Deed) (W : World) : Prop := ∃ v, Boxed W B 22 v ∧ W.ownsRow B 43 3 v pre.length (flatD pre)
theorem HoldsD.own (B : Nat) : Go.Own (HoldsD B) := fun s X Y row hs hg hr => by
  obtain ⟨v, h1, h2⟩ := hs
  obtain ⟨v', h3, h4, _⟩ := holdsRow_own B B 22 43 3 (fun pre : List Deed => pre.length) (fun pre => flatD pre) (fun _ _ => True) s X Y row ⟨v, h1, h2, trivial⟩ hg hr
  exact ⟨v', h3, h4⟩

/-- What the append keeps. -/
theorem Kd.appended {W w1 : World} {n₀ B : Nat} {t e : TypeId} {size : Nat} {v v' : Value} {k m : Nat} {xs ys : List Value} {tmp : Obj}
    (hv : Boxed W B t v) (hte : t ≠ e) (hrow : W.ownsRow n₀ e size v k xs) (hn₀ : n₀ ≤ W.heap.size) (hB : n₀ ≤ B)
    (hown' : w1.ownsRow n₀ e size v' m ys) (hgrow : (W.alloc tmp).grownBy w1 v.ownBlock) (hti : t ≠ 3) (hei : e ≠ 3) : Kd n₀ W (w1.setCell ⟨B, 0, none⟩ v') := by
  refine ⟨(hv.appended hte hrow hn₀ hB hown' hgrow).2.2.2.2, fun b cur fr hb => ?_⟩
  have hlt := (Array.getElem?_eq_some_iff.1 hb).1
  have hbB : b ≠ B := by
    rintro rfl
    have h1 := hb.symm.trans (show W.heap[b]? = _ from hv)
    simp only [Option.some.injEq, Obj.cells.injEq] at h1
    exact hti h1.2.1.symm
  have hbg : some b ≠ v.ownBlock := by
    rcases hrow.2 with ⟨rfl, _⟩ | ⟨g, cap, cur2, rfl, _, hgb, _⟩
    · simp [Value.ownBlock]
    · intro e'
      obtain rfl : b = g := by simpa [Value.ownBlock] using e'
      have h1 := hb.symm.trans hgb
      simp only [Option.some.injEq, Obj.cells.injEq] at h1
      exact hei h1.2.1.symm
  refine (Below.heap_setCell _ _ _ b hbB).trans ((hgrow.block b (by simp; omega) (fun e' => hbg e')).trans ?_)
  exact (Below.heap_alloc _ _ _ (by omega)).trans hb

/-- The loop's variable: a box of a deed. -/
def VarD (B : Nat) (x : Deed) (p : Nat) (W : World) : Prop := B ≤ p ∧ W.heap[p]? = some (.cells #[.int .i64 x.1, .int .i64 x.2.1, .int .i64 x.2.2] 43 (0, 0))
theorem VarD.own {B : Nat} (x : Deed) (p : Nat) (n0 : Nat) : OwnFrom n0 (fun (_ : Unit) W => VarD B x p W) := fun _ X Y row hs hg hr => by
  refine ⟨hs.1, (hg.block p (Array.getElem?_eq_some_iff.1 hs.2).1 (fun e => ?_)).trans hs.2⟩
  obtain ⟨_, o, ho, hc⟩ := hr p e.symm
  rw [hs.2] at ho
  cases ho
  cases hc

set_option maxRecDepth 100000 in
set_option maxHeartbeats 2000000 in
/-- slices.AppendSeq(nil, deeds(t)). -/
theorem appendSeq_in (F : Fence) (n : Nat) (h3 : F.fn 111) (h5 : F.fn 88) (hro : F.round = none) (hn : 3 ≤ n) (Bs : Nat) (a : Option Addr) (m cap : Nat) (hm : m ≤ 4) (w : World) (hBs : Bs < w.heap.size)
    (hc : w.cell? ⟨Bs, 0, none⟩ = some (.slice a m cap)) :
    CallsIn F n Try.prog 111 #[.slice none 0 0, .func (.func 88) #[] #[.pointer (some ⟨Bs, 0, none⟩)]] w fun e W' => ∃ v', e = .returned v' ∧ W'.ownsRow w.heap.size 43 3 v' (deedsL m).length (flatD (deedsL m)) ∧ Below w.heap.size w W' := by
  have h1 : 1 ≤ n := by omega
  obtain ⟨i0, hi, hz0, hz1, hz2⟩ := info_parts Try.infoDeed
  refine callsIn_of_wp_marks Try.func111 rfl h3 ?_ hro
  simp only [Try.ntmps111, List.size_toArray, List.length_cons, List.length_nil, Nat.reduceAdd, Nat.reduceSub, Array.replicate_succ, Array.replicate_zero, List.push_toArray, List.append_toArray, List.nil_append, List.cons_append]
  gi_wp2
  have bO := Boxed.new w 22 (.slice none 0 0)
  have hB0 : Below w.heap.size w (w.alloc (.cells #[.slice none 0 0] 22)) := (Below.refl _ w).alloc (Nat.le_refl _) _
  refine wpIn_rangeFunc_ownH hro h1 (gf := 88) (lb := #[.pointer (some ⟨Bs, 0, none⟩)]) rfl h5 (enters_of Try.func88 (by kernel_rfl) rfl)
    (deeds_stops F (n - 1) h5 hro (by omega) Bs w.heap.size a m cap hm hBs _ (by simp) ((hB0.cell (p := ⟨Bs, 0, none⟩) hBs).trans hc)) (fun h k => Kd.trans h k) (fun W l o o' hl hh hcc hw => Kd.put (Nat.le_refl _) W l o o' (by simp at hl; omega) hh hcc hw) (Below.refl _ _) (fun _ => rfl)
    (fun pre W => HoldsD w.heap.size pre W ∧ Below w.heap.size w W)
    (fun _ _ _ => False)
    (OwnFrom.and (Own.from (HoldsD.own w.heap.size) _) (ownFrom_below (Nat.le_refl _) (by simp)))
    (fun _ _ _ _ _ hs _ _ => hs)
    ⟨⟨_, bO, World.ownsRow_nil _ _ _ _⟩, hB0⟩
    (fun x a' W => ∃ p, VarD w.heap.size x p W ∧ a' = { tmps := #[.slice none 0 0, .func (.func 88) #[] #[.pointer (some ⟨Bs, 0, none⟩)], .pointer (some ⟨w.heap.size, 0, none⟩), undef, .slice none 0 0, .pointer (some ⟨p, 0, none⟩), .func (.func 88) #[] #[.pointer (some ⟨Bs, 0, none⟩)], deedV x, undef, undef, undef, undef, undef], defers := [] })
    (fun x a' s W W' row hs hg hr => by obtain ⟨p, hp, e⟩ := hs; exact ⟨p, VarD.own x p _ () W W' row hp hg hr, e⟩) ?assign ?body ?done ?stop
  case assign =>
    rintro l pre ⟨x1, x2, x3⟩ W K hI hK
    simp only [deedV]
    obtain ⟨hh, hB⟩ := hI
    have hbn := (Below.refl w.heap.size W).alloc hB.size (.cells #[.int .i64 x1, .int .i64 x2, .int .i64 x3] 43)
    gi_wp2
    refine hK _ _ ((KeepsOthers.alloc W _).from _) ⟨hbn, fun b cur fr hb => (Below.heap_alloc _ _ _ (Array.getElem?_eq_some_iff.1 hb).1).trans hb⟩ ⟨(Own.from (HoldsD.own w.heap.size) w.heap.size).alloc _ hh, hB.trans hbn⟩ ⟨W.heap.size, ⟨hB.size, World.alloc_heap_new W _⟩, rfl⟩
  case body =>
    rintro l pre ⟨x1, x2, x3⟩ a' W hl hlo ⟨⟨v, hv, hrow⟩, hB⟩ ⟨p, ⟨hp0, hp⟩, rfl⟩ hlt
    have hc := hv.cell
    have p0 : W.cell? ⟨p, 0, none⟩ = some (.int .i64 x1) := by simp [World.cell?, hp]
    have p1 : W.cell? ⟨p, 1, none⟩ = some (.int .i64 x2) := by simp [World.cell?, hp]
    have p2 : W.cell? ⟨p, 2, none⟩ = some (.int .i64 x3) := by simp [World.cell?, hp]
    simp only [deedV]
    gi_wp2_with (gi_at_builtin; refine wpListIn_append_own _ rfl _ _ 22 rfl w.heap.size 43 i0 (.agg #[.int .i64 0, .int .i64 0, .int .i64 0]) 3 24 Try.underlying22 hi hz0 hz1 hz2 rfl (by decide) _ _ _ rfl (hrow.alloc _) ⟨W.heap.size, 0, none⟩ 1 1 [.int .i64 x1, .int .i64 x2, .int .i64 x3] rfl rfl (cell3_new _ _ _ _ _ rfl) (by simp [Value.oneCell']) (by unfold maxLen; omega) (by omega) (by have := hB.size; simp; omega) ?_; intro v' w1 hown' hgrow _; obtain ⟨g', cap', rfl⟩ := ownsRow_succ hown'; have hkd := Kd.appended hv (by decide) hrow hB.size (Nat.le_refl _) hown' hgrow (by decide) (by decide); obtain ⟨hv1, hv2, hr2, hk2, hb2⟩ := hv.appended (by decide) hrow hB.size (Nat.le_refl _) hown' hgrow; have hc1 := hv1.cell; have hf1 := hv1.frozen)
    exact ⟨hk2.from _, hkd, ⟨_, hv2, by rw [flatD_append, List.length_append]; exact hr2⟩, hB.trans hb2⟩
  case done =>
    rintro D ys W hD rfl ⟨⟨v, hv, hrow⟩, hB⟩ hK
    have hc := hv.cell
    gi_wp2
    refine ⟨by simp, .inl ⟨_, _, rfl, run_takeDeferred hK, ?_⟩⟩
    exact ⟨_, results_tmp rfl _ _ _, _, rfl, ownsRow_putObj hrow _ hK rfl, hB.trans (belowK_b (w := w) (Nat.le_refl _) W D _ _ (by simp at hD; omega) hK rfl rfl)⟩
  case stop =>
    rintro D c pre W _ _ h _
    exact h.elim

end Go.Proofs.Ytikcpfpeoofppaa
