/- Contracts: tides that are mapped wave by wave: Shifted and Back of the program. -/
import Derived.Test.YtflhpnhehaokpaaI
namespace Go.Proofs.Ytflhpnhehaokpaa
open Go.RowKit

theorem Try.infoInts : (Try.prog.info? 34).map (fun i => (i.zero, i.size, i.bytes)) = some (some (.slice none 0 0), 1, 24) := by kernel_rfl

theorem own_below {w w' : World} {base : Nat} {e : TypeId} {size : Nat} {v : Value} {n : Nat} {xs : List Value} (h : w.ownsRow base e size v n xs) (hb : Below w.heap.size w w') : w'.ownsRow base e size v n xs := by
  refine ⟨h.1, ?_⟩
  rcases h.2 with hn | ⟨g, cap, cur, hv, hbg, hg, hrest⟩
  · exact .inl hn
  · have hlt : g < w.heap.size := by
      rcases Nat.lt_or_ge g w.heap.size with h | h
      · exact h
      · rw [Array.getElem?_eq_none h] at hg; cases hg
    exact .inr ⟨g, cap, cur, hv, hbg, (hb.block g hlt).trans hg, hrest⟩

theorem own_ne {w : World} {b b' : Nat} {e e' : TypeId} {s s' : Nat} {v v' : Value} {n n' : Nat} {xs xs' : List Value} (h : w.ownsRow b e s v n xs) (h' : w.ownsRow b' e' s' v' n' xs') (hne : e ≠ e') :
    v.ownBlock = none ∨ v.ownBlock ≠ v'.ownBlock := by
  rcases h.2 with ⟨rfl, _⟩ | ⟨g, cap, cur, rfl, _, hg, _⟩
  · exact .inl rfl
  · rcases h'.2 with ⟨rfl, _⟩ | ⟨g', cap', cur', rfl, _, hg', _⟩
    · exact .inr (by simp [Value.ownBlock])
    · refine .inr fun he => ?_
      simp only [Value.ownBlock, Option.some.injEq] at he
      subst he
      rw [hg] at hg'
      simp only [Option.some.injEq, Obj.cells.injEq] at hg'
      exact hne hg'.2.1

theorem own_append {wr w1 : World} {b b' : Nat} {e e' : TypeId} {s s' : Nat} {v x : Value} {n n' : Nat} {xs xs' : List Value} {o : Obj} (h : wr.ownsRow b e s x n xs) (hout : wr.ownsRow b' e' s' v n' xs') (hne : e ≠ e')
    (hg : (wr.alloc o).grownBy w1 v.ownBlock) : w1.ownsRow b e s x n xs :=
  (h.alloc o).kept hg (own_ne (h.alloc o) (hout.alloc o) hne)

theorem own_mono {w : World} {b b' : Nat} {e : TypeId} {s : Nat} {v : Value} {n : Nat} {xs : List Value} (h : w.ownsRow b e s v n xs) (hb : b' ≤ b) : w.ownsRow b' e s v n xs := by
  refine ⟨h.1, ?_⟩
  rcases h.2 with hn | ⟨g, cap, cur, hv, hbg, hrest⟩
  · exact .inl hn
  · exact .inr ⟨g, cap, cur, hv, by omega, hrest⟩

/-- A list that is handed back in a row of its own. -/
def GivesO (l : List Int) (w : World) (e : Ending) (w' : World) : Prop := ∃ ov, e = .returned ov ∧ w'.ownsRow w.heap.size 3 1 ov l.length (l.map (Value.int .i64)) ∧ Below w.heap.size w w'

/-- What a wave becomes. -/
def mapW (f : Nat → Int) (n : Nat) : List Int := (List.range n).map f
theorem mapW_length (f : Nat → Int) (n : Nat) : (mapW f n).length = n := by simp [mapW]

theorem mapW_vals {f : Nat → Int} {n : Nat} {xs : List Value} (hl : xs.length = n * 1) (h : ∀ j, j < n → xs.getD j undef = .int .i64 (f j)) : xs = (mapW f n).map (Value.int .i64) := by
  apply List.ext_getElem (by simp [mapW]; omega)
  intro j h1 h2
  have := h j (by simp [mapW] at h2; omega)
  rw [List.getD_eq_getElem?_getD, List.getElem?_eq_getElem h1] at this
  simp at this
  rw [this]
  simp [mapW]

set_option maxHeartbeats 400000 in
theorem wmapped_any (v : Value) (l : List Int) (g : Nat) (lb : Array Value) (f : Nat → Int) (w : World) (hv : IntsAt w v l) (hl1 : l.length ≤ 1000)
    (eg : ∀ args w, (callFunc g args).run Try.prog w = .ok (.enter g args) w)
    (hg : ∀ W, Below w.heap.size w W → ∀ i : Nat, i < l.length → Calls Try.prog g (#[v, .int .i64 i] ++ lb) W fun e W' => e = .returned (.int .i64 (f i)) ∧ W = W') :
    Calls Try.prog 92 #[v, .func (.func g) #[] lb] w (GivesO (mapW f l.length) w) := by
  obtain ⟨i0, hi0, hz0, hz1, hz2⟩ := info_parts Try.infoInt
  obtain ⟨a, cap, rfl, hl, hq⟩ := hv
  clear hq
  have HG := Lib.hid hg
  clear hg
  generalize l.length = n at *
  go_enter Try.func92, Try.ntmps92
  go_wp2_with (at_make; refine wpList_make_full _ rfl _ _ 34 rfl w.heap.size 3 i0 (.int .i64 0) 1 Try.underlying34 hi0 hz0 hz1 .i64 .i64 _ _ n rfl rfl rfl rfl (by rw [hz2]; omega) (by unfold maxLen; omega) (Nat.le_refl _) ?_; intro w1 hown1 hgrow1)
  have hb1 : Below w.heap.size w w1 := (Below.refl _ _).grown hgrow1 (Nat.le_refl _) (fun k e => by cases e)
  generalize (madeCells (Value.int .i64 0).cells (n * 1)).toList = ys at hown1
  clear hgrow1
  go_loopw [12] (fun i wr => ∃ (k : Nat) (xs : List Value), k ≤ n ∧ i = .int .i64 k ∧ wr.ownsRow w.heap.size 3 1 (.slice (some ⟨w.heap.size, 0, none⟩) n n) n xs ∧ (∀ j, j < k → xs.getD j undef = .int .i64 (f j)) ∧ Below w.heap.size w wr)
    (fun i _ => n - (intOf i).toNat)
  case atStart => exact ⟨0, _, Nat.zero_le _, rfl, hown1, fun j hj => by omega, hb1⟩
  case round =>
    obtain ⟨k, xs, hk, rfl, hown, hall, hbel⟩ := hrel
    have A := Lib.hid hall
    clear hall hb1 hown1
    by_cases hlt : k < n
    · have hxl := hown.1
      have hcell : wr.cell? ⟨w.heap.size, k, none⟩ = some (xs.getD k undef) := by
        rw [hown.cellAt k (by omega), List.getD_eq_getElem?_getD, List.getElem?_eq_getElem (by omega)]; rfl
      have hfr := hown.frozenAt k
      obtain ⟨st1, st2⟩ := hown.stored k (.int .i64 (f k))
      have XL := Lib.hid hxl
      have S1 := Lib.hid st1
      generalize xs.getD k undef = old at hcell
      clear hxl st1 st2
      go_wp2_with (go_at_fn g; refine (HG.out _ hbel k hlt).mono ?_; rintro e w' ⟨rfl, rfl⟩)
      go_roundw
      case rel => exact ⟨k + 1, xs.set k (.int .i64 (f k)), by omega, by go_num, S1.out, fun j hj => by
        have hxl := XL.out
        by_cases e : j = k
        · subst e; rw [List.getD_eq_getElem?_getD, List.getElem?_set_self (by omega)]; rfl
        · rw [List.getD_eq_getElem?_getD, List.getElem?_set_ne (by omega), ← List.getD_eq_getElem?_getD]; exact A.out j (by omega), hbel.setCell (Nat.le_refl _) _⟩
      case measure => simp [intOf]; omega
    · have e : k = n := by omega
      subst e
      go_wp2
      go_ret
      refine ⟨_, rfl, ?_, hbel⟩
      rw [mapW_length, ← mapW_vals hown.1 A.out]
      exact hown

/-- The tide that is mapped. -/
def mapT (f : List Int → Nat → Int) (t : List (List Int)) : List (List Int) := t.map fun l => mapW (f l) l.length

theorem mapT_length (f : List Int → Nat → Int) (t : List (List Int)) : (mapT f t).length = t.length := by simp [mapT]
theorem mapT_get (f : List Int → Nat → Int) (t : List (List Int)) (i : Nat) (h : i < t.length) : (mapT f t).getD i [] = mapW (f (t.getD i [])) (t.getD i []).length := by
  simp [mapT, List.getD_eq_getElem?_getD, h]

/-- A tide that is handed back in new memory. -/
def GivesR (t : List (List Int)) (w : World) (e : Ending) (w' : World) : Prop := ∃ ov, e = .returned ov ∧ RowsAt w' ov t ∧ Below w.heap.size w w'

theorem mapped_step {w wr w2 : World} {B k : Nat} {xs : List Value} {o ov : Value} {F : Nat → List Int} {m : List Int}
    (HA : Hid (∀ j, j < k → wr.ownsRow B 3 1 (xs.getD j undef) (F j).length ((F j).map (Value.int .i64)))) (hown : wr.ownsRow B 34 1 o k xs) (hbel : Below B w wr) (hsz : B ≤ wr.heap.size)
    (hov : w2.ownsRow wr.heap.size 3 1 ov m.length (m.map (Value.int .i64))) (hb2 : Below wr.heap.size wr w2) :
    ∃ (oa : Option Addr) (oc : Nat), ov = .slice oa m.length oc ∧ w2.ownsRow B 34 1 o k xs ∧ Below B w w2 ∧ B ≤ w2.heap.size ∧ w2.ownsRow B 3 1 (.slice oa m.length oc) m.length (m.map (Value.int .i64)) ∧
      Hid (∀ j, j < k → w2.ownsRow B 3 1 (xs.getD j undef) (F j).length ((F j).map (Value.int .i64))) := by
  have hov' := own_mono hov hsz
  obtain ⟨oa, oc, rfl, _⟩ := own_cells hov'
  exact ⟨oa, oc, rfl, own_below hown hb2, hbel.trans (hb2.mono hsz), Nat.le_trans hsz hb2.size, hov', fun j hj => own_below (HA.out j hj) hb2⟩

set_option maxHeartbeats 1000000 in
theorem tmapped_any (v : Value) (t : List (List Int)) (g : Nat) (lb : Array Value) (f : List Int → Nat → Int) (w : World) (hv : RowsAt w v t) (ht : Vld t)
    (eg : ∀ args w, (callFunc g args).run Try.prog w = .ok (.enter g args) w)
    (hg : ∀ W x l, l ∈ t → IntsAt W x l → Below w.heap.size w W → ∀ i : Nat, i < l.length → Calls Try.prog g (#[x, .int .i64 i] ++ lb) W fun e W' => e = .returned (.int .i64 (f l i)) ∧ W = W') :
    Calls Try.prog 69 #[v, .func (.func g) #[] lb] w (GivesR (mapT f t) w) := by
  have hlo := ht.lo
  have hhi := ht.hi
  obtain ⟨i0, hi0, hz0, hz1, hz2⟩ := info_parts Try.infoInts
  obtain ⟨a, cap, rfl, hl, hq⟩ := id hv
  obtain ⟨b, off, rfl, hc⟩ := hq (by omega)
  have HG := Lib.hid hg
  clear hq hv hg
  go_enter Try.func69, Try.ntmps69
  go_wp2
  go_loopw [5, 10] (fun o i wr => ∃ (k : Nat) (xs : List Value), k ≤ t.length ∧ i = .int .i64 k ∧ xs.length = k ∧ wr.ownsRow w.heap.size 34 1 o k xs ∧
      (∀ j, j < k → wr.ownsRow w.heap.size 3 1 (xs.getD j undef) (mapW (f (t.getD j [])) (t.getD j []).length).length ((mapW (f (t.getD j [])) (t.getD j []).length).map (Value.int .i64))) ∧ Below w.heap.size w wr)
    (fun _ i _ => t.length - (intOf i).toNat)
  case atStart => exact ⟨0, [], Nat.zero_le _, rfl, rfl, World.ownsRow_nil _ _ _ _, fun j hj => by omega, Below.refl _ _⟩
  case round =>
    obtain ⟨k, xs, hk, rfl, hxs, hown, hall, hbel⟩ := hrel
    have hsz := hbel.size
    have XL := Lib.hid hxs
    have HA := Lib.hid hall
    clear hxs hall
    by_cases hlt : k < t.length
    · obtain ⟨x, hx0, hi⟩ := hc k hlt
      have hmem := getD_mem hlt
      have hl12 := (ht.wave _ hmem).2.1
      generalize hlk : t.getD k [] = lk at hi hmem hl12
      have LK := Lib.hid hlk
      clear hlk
      obtain ⟨xa, xc, rfl, hxr⟩ := id hi
      clear hxr hc
      have hx := keep_cell hbel hx0
      have hiw := hi.below hbel
      clear hx0 hi
      go_wp2_with (first
        | (go_at_call 92; refine (wmapped_any _ _ g lb (f lk) _ hiw (by omega) eg (fun W hW i hi => HG.out W _ lk hmem (hiw.below hW) (hbel.trans (hW.mono hbel.size)) i hi)).mono ?_; rintro e w2 ⟨ov, rfl, hov, hb2⟩; have HS := mapped_step HA hown hbel hsz hov hb2; obtain ⟨oa, oc, rfl, hown2, hbel2, hsz2, hov', HA2⟩ := HS; clear hov hb2 hbel hown HA hx hiw)
        | (at_builtin; refine wpList_append_own _ rfl _ _ 22 rfl w.heap.size 34 i0 (.slice none 0 0) 1 24 Try.underlying22 hi0 hz0 hz1 hz2 rfl (by decide) _ _ _ rfl (hown2.alloc _) ⟨w2.heap.size, 0, none⟩ 1 1 [.slice oa (mapW (f lk) lk.length).length oc] rfl rfl ?c1 ?c2 ?c3 ?c4 ?c5 ?_))
      case c1 => exact (cell_one_new _ _ _)
      case c2 => intro u hu; simp at hu; subst hu; rfl
      case c3 => unfold maxLen; omega
      case c4 => omega
      case c5 => simp; omega
      · intro v' w1 hown' hgrow _
        have R := below_append hbel2 hsz2 hown2 hgrow
        have HA3 : Hid (∀ j, j < k + 1 → w1.ownsRow w.heap.size 3 1 ((xs ++ [Value.slice oa (mapW (f lk) lk.length).length oc]).getD j undef) (mapW (f (t.getD j [])) (t.getD j []).length).length ((mapW (f (t.getD j [])) (t.getD j []).length).map (Value.int .i64))) := fun j hj => by
          rcases Nat.lt_succ_iff_lt_or_eq.1 hj with h | rfl
          · rw [getD_snoc_lt _ _ _ (by rw [XL.out]; exact h)]; exact own_append (HA2.out j h) hown2 (by decide) hgrow
          · have e := getD_snoc_eq xs (.slice oa (mapW (f lk) lk.length).length oc) undef
            rw [XL.out] at e
            rw [e, LK.out]; exact own_append hov' hown2 (by decide) hgrow
        clear hown2 hgrow hbel2 hov' HA2
        go_wp2
        go_roundw
        case rel => exact ⟨k + 1, xs ++ [.slice oa (mapW (f lk) lk.length).length oc], by omega, by go_num, by simp [XL.out], hown', HA3.out, R⟩
        case measure => simp [intOf]; omega
    · have e : k = t.length := by omega
      subst e
      go_wp2
      go_ret
      refine ⟨_, rfl, own_rows (e := 34) (base := w.heap.size) (xs := xs) (by rw [mapT_length]; exact hown) (by rw [mapT_length]; omega) (fun i h => ?_), hbel⟩
      rw [mapT_length] at h
      rw [mapT_get _ _ _ h]
      have := HA.out i h
      exact own_ints this (by rw [mapW_length]; have := (ht.wave _ (getD_mem h)).2.1; omega)

end Go.Proofs.Ytflhpnhehaokpaa
