/- Contracts: all, add. -/
import Derived.Test.YtdfkaijeppdhaaaGreatDoorEt
import Derived.ArgAppend
import Derived.Deep.RegionLaw
namespace Go.Proofs.YtdfkaijeppdhaaaGreatDoor
open Go.RowKit Go.Shelf

theorem own_prefix {w : World} {base g cap n m : Nat} {e : TypeId} {size : Nat} {xs ys : List Value} (h : w.ownsRow base e size (.slice (some ⟨g, 0, none⟩) (n + m) cap) (n + m) (xs ++ ys)) (hx : xs.length = n * size) : w.ownsRow base e size (.slice (some ⟨g, 0, none⟩) n cap) n xs := by
  rcases h.2 with ⟨h0, _⟩ | ⟨g', cap', cur, hv, hb, hg, hc, hm, hcs, htk⟩
  · cases h0
  · simp only [Value.slice.injEq, Option.some.injEq, Addr.mk.injEq, and_true, true_and] at hv
    obtain ⟨rfl, rfl⟩ := hv
    refine ⟨hx, .inr ⟨g, cap, cur, rfl, hb, hg, by omega, hm, hcs, ?_⟩⟩
    have := congrArg (List.take (n * size)) htk
    rw [List.take_take, Nat.min_eq_left (Nat.mul_le_mul_right _ (by omega)), ← hx, List.take_left] at this
    rw [← hx]
    exact this
/-- What an append to a list of a book leaves. -/
structure AppKeeps (v : Value) (l : List Ent) (e : Ent) (W : World) (v' : Value) (W' : World) : Prop where
  new : ListAt W' v' (l ++ [e])
  old : ListAt W' v l
  grown : W.grownBy W' v.ownBlock
  own : v'.ownBlock = v.ownBlock ∨ ∃ g, v'.ownBlock = some g ∧ W.heap.size ≤ g
  is : ∃ g cap, v' = .slice (some ⟨g, 0, none⟩) (l.length + 1) cap
theorem append_keeps {W : World} {v : Value} {l : List Ent} (h : ListAt W v l) (hl : l.length ≤ 1000) (e : Ent) (ty : TypeId) (ad : Addr) (hnews : ∀ j u, (rowE [e])[j]? = some u → W.cell? (ad.add j) = some u) :
    ∃ v' W', (Builtin.append_ #[40, 40] ty #[v, .slice (some ad) 1 1]).run Tryz.prog W = .ok v' W' ∧ AppKeeps v l e W v' W' := by
  obtain ⟨i0, hi0, hz0, hz1, hz2⟩ := info_parts Tryz.infoEnt
  have hone := rowE_one [e]
  have hnl : (rowE [e]).length = 1 * 4 := by rw [rowE_len]; rfl
  rcases h.2 with ⟨rfl, h0⟩ | ⟨g, cap, cur, rfl, _, hg, hc, hm, hcs, htk⟩
  · have hln : l = [] := List.length_eq_zero_iff.1 h0
    subst hln
    obtain ⟨v', W', hrun, hown, hgr, _⟩ := run_append_own (P := Tryz.prog) W W.heap.size 40 ty 43 i0 _ 4 40 Tryz.underlying40 hi0 hz0 hz1 hz2 rfl (by decide) (.slice none 0 0) 0 [] (World.ownsRow_nil _ _ _ _) ad 1 1 (rowE [e]) hnl hnews hone (by unfold maxLen; omega) (by omega) (Nat.le_refl _)
    rcases hown.2 with ⟨_, h1⟩ | ⟨g, cap, cur, hv', hb, _⟩
    · omega
    · exact ⟨v', W', hrun, own_base hown (Nat.zero_le _), listAt_nil _, hgr, .inr ⟨g, by rw [hv']; rfl, hb⟩, g, cap, hv'⟩
  · by_cases hroom : l.length + 1 ≤ cap
    · obtain ⟨v', W', hrun, hown, hgr, _⟩ := run_append_own (P := Tryz.prog) W 0 40 ty 43 i0 _ 4 40 Tryz.underlying40 hi0 hz0 hz1 hz2 rfl (by decide) _ _ _ h ad 1 1 (rowE [e]) hnl hnews hone (by unfold maxLen; omega) (by omega) (Nat.zero_le _)
      have hrun2 := run_append_room_cells (P := Tryz.prog) W 40 ty 43 i0 Tryz.underlying40 hi0 g 0 l.length cap ad 1 1 (rowE [e]) (by rw [hz1]; exact hnl) hnews hone hroom (fun j hj => by
        rw [hnl] at hj
        rw [hz1]
        simp only [World.cell?, hg]
        rw [Array.getElem?_eq_getElem (by omega)]
        rfl) (fun j hj => by simp [World.frozen?, hg])
      rw [hrun] at hrun2
      have hv' : v' = .slice (some ⟨g, 0, none⟩) (l.length + 1) cap := by injection hrun2
      subst hv'
      have hnew : ListAt W' (.slice (some ⟨g, 0, none⟩) (l.length + 1) cap) (l ++ [e]) := by
        unfold ListAt
        rw [rowE_append, List.length_append]
        exact hown
      exact ⟨_, W', hrun, hnew, own_prefix hown h.1, hgr, .inl rfl, g, cap, rfl⟩
    · obtain ⟨v', W', hrun, hown, hgr⟩ := run_append_arg_grows (P := Tryz.prog) W 40 ty 43 i0 _ 4 40 Tryz.underlying40 hi0 hz0 hz1 hz2 rfl (by decide) ⟨g, 0, none⟩ l.length cap (rowE l) h.1 (fun j u hj => by
        have hjl := (List.getElem?_eq_some_iff.1 hj).1
        rw [h.1] at hjl
        rw [Addr.add_lit, h.cellAt (0 + j) (by omega), Nat.zero_add, hj]) ad 1 1 (rowE [e]) hnl hnews (by omega) (by unfold maxLen; omega) (by omega)
      have hlt : g < W.heap.size := (Array.getElem?_eq_some_iff.1 hg).1
      have hnew : ListAt W' v' (l ++ [e]) := by
        unfold ListAt
        rw [rowE_append, List.length_append]
        exact own_base hown (Nat.zero_le _)
      rcases hown.2 with ⟨_, h1⟩ | ⟨g', cap', cur', hv', hb, _⟩
      · omega
      · exact ⟨v', W', hrun, hnew, ListAt.keep h (fun k hk => by
          have hkg : k = g := by simpa [Value.ownBlock] using hk.symm
          subst hkg
          exact hgr.block k hlt (by simp)), ⟨hgr.os, hgr.tape, hgr.output, hgr.size, fun k hk _ => hgr.block k hk (by simp)⟩, .inr ⟨g', by rw [hv']; rfl, hb⟩, g', cap', hv'⟩

/-- An append at a step, by what its run gives. -/
theorem step_append_run {P : Program} {ops : Array Oper} {o : Oper} {a : Act} {w : World} {K : Act → World → Prop} {Q : Exit → Act → World → Prop} {E : Prop} (hg : o.guard = none) (s x : Operand) (t : TypeId)
    (hop : o.op = Op.call { callee := Callee.builtin Builtin.append, args := #[s, x], argTypes := #[t, t] }) (sv xv : Value) (hs : a.eval s = sv) (hx : a.eval x = xv) (R : Value → World → Prop)
    (hrun : ∃ v' w', (Builtin.append_ #[t, t] o.type #[sv, xv]).run P w = .ok v' w' ∧ R v' w') (hK : ∀ v' w', R v' w' → K (a.put o.dst v') w') :
    if Region.wanted o (yielded ops a.tmps) = true then Oper.wp P o a w K Q else E := by
  have hw : Region.wanted o (yielded ops a.tmps) = true := by simp [Region.wanted, hg]
  rw [if_pos hw]
  obtain ⟨v', w', hr, hR⟩ := hrun
  unfold Oper.wp
  simp [execOp, hop, resolve, invoke, builtin, hs, hx, hr, Result.andThen]
  exact hK v' w' hR

/-! ### all -/
set_option maxHeartbeats 1000000 in
theorem all_any (K : Nat) (F : List Nat) (b : Book) (w : World) (h : BookAt w K F b) (hok : BookOk b) :
    Calls Tryz.prog 57 #[.pointer (some ⟨K, 0, none⟩)] w (SincePost (allB b) w) := by
  have S := Lib.hid (since_any K F b 0 0 0 0 (fun _ => 0) ⟨rfl, rfl, rfl, rfl⟩ w h (fun i hi => (hok i hi).len) hok)
  unfold allB
  clear h hok
  go_enter Tryz.func57, Tryz.ntmps57
  go_wp2_with fail
  refine S.out.mono ?_
  rintro e w' ⟨v, rfl, h1, h2, h3⟩
  go_wp2
  go_ret
  exact ⟨v, rfl, h1, h2, h3⟩
end Go.Proofs.YtdfkaijeppdhaaaGreatDoor
