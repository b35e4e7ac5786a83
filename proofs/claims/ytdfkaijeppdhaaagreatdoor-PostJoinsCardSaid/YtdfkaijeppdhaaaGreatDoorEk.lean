/- What a book says, in memory; the deeds put, drop, add. -/
import Derived.Test.YtdfkaijeppdhaaaGreatDoorEi
import Derived.Maps.OwnOps
import Derived.Maps.OwnSet
import Derived.StringKeys
import Derived.Deep.RegionHeld3
namespace Go.Proofs.YtdfkaijeppdhaaaGreatDoor
open Go.RowKit Go.Shelf

theorem Tryz.keyedStr : Maps.Keyed Tryz.prog 9 := Maps.string_keyed Tryz.underlying9
def keyS (s : ByteArray) : Lit := .string s.data.toList
theorem keyOf_s {s : ByteArray} (hs : s.size ≤ 1000000) : keyOf Tryz.prog 9 (.string s) = some (keyS s) := WideMaps.keyOf_string_mk Tryz.underlying9 (by unfold maxLen; omega)
theorem keyS_inj {s t : ByteArray} (h : keyS s = keyS t) : s = t := by
  unfold keyS at h
  injection h with h
  exact ba_ext h
theorem keyS_is (s : ByteArray) : WideAt.IsKeyLit (keyS s) := trivial
/-- An element is read as it is. -/
def asIs (v : Value) : Option (DataW Value × List MemPlace) := some (.held v, [])
def TxtView (D : DataW Value) (f : ByteArray → Option ByteArray) : Prop := Maps.IsMap D ∧ ∀ s, Maps.has D (keyS s) = (f s).isSome ∧ ∀ t, f s = some t → ∀ z, D.atKey (keyS s) z = .held (.string t)
def StkView (D : DataW Value) (g : ByteArray → Int) : Prop := Maps.IsMap D ∧ ∀ s, D.atKey (keyS s) (.held (.int .i64 0)) = .held (.int .i64 (g s))
theorem TxtView.put {D : DataW Value} {f : ByteArray → Option ByteArray} (h : TxtView D f) (n t : ByteArray) : TxtView (D.put (keyS n) (.held (.string t))) (upd f n (some t)) := by
  refine ⟨h.1.put _ _, fun s => ?_⟩
  by_cases e : s = n
  · subst e
    rw [upd_same]
    exact ⟨Maps.has_put_same h.1 (keyS_is _) _, fun t' ht z => by cases ht; exact Maps.atKey_put_same h.1 (keyS_is _) _ _⟩
  · have hk : keyS s ≠ keyS n := fun e2 => e (keyS_inj e2)
    rw [upd_other _ _ e, Maps.has_put_other hk]
    exact ⟨(h.2 s).1, fun t' ht z => by rw [Maps.atKey_put_other hk]; exact (h.2 s).2 t' ht z⟩
theorem TxtView.del {D : DataW Value} {f : ByteArray → Option ByteArray} (h : TxtView D f) (n : ByteArray) : TxtView (D.del (keyS n)) (upd f n none) := by
  refine ⟨h.1.del _, fun s => ?_⟩
  by_cases e : s = n
  · subst e
    rw [upd_same]
    exact ⟨Maps.has_del_same, fun t' ht => by cases ht⟩
  · have hk : keyS s ≠ keyS n := fun e2 => e (keyS_inj e2)
    rw [upd_other _ _ e, Maps.has_del_other hk]
    exact ⟨(h.2 s).1, fun t' ht z => by rw [Maps.atKey_del_other hk]; exact (h.2 s).2 t' ht z⟩
theorem StkView.put {D : DataW Value} {g : ByteArray → Int} (h : StkView D g) (n : ByteArray) (m : Int) : StkView (D.put (keyS n) (.held (.int .i64 m))) (upd g n m) := by
  refine ⟨h.1.put _ _, fun s => ?_⟩
  by_cases e : s = n
  · subst e
    rw [upd_same]
    exact Maps.atKey_put_same h.1 (keyS_is _) _ _
  · have hk : keyS s ≠ keyS n := fun e2 => e (keyS_inj e2)
    rw [upd_other _ _ e, Maps.atKey_put_other hk]
    exact h.2 s

/-- The blocks a and b: the texts and the stocks; at most n entries each. -/
structure KnAt (w : World) (a b n : Nat) (k : Kn) : Prop where
  ne : a ≠ b
  txt : ∃ D, w.ownsMap Tryz.prog 9 asIs a n D ∧ TxtView D k.txt
  stk : ∃ D, w.ownsMap Tryz.prog 9 asIs b n D ∧ StkView D k.stk
theorem ownsMap_keep {W W' : World} {M n : Nat} {D : DataW Value} (h : W.ownsMap Tryz.prog 9 asIs M n D) (hk : W'.heap[M]? = W.heap[M]?) : W'.ownsMap Tryz.prog 9 asIs M n D := by
  obtain ⟨es, ck, hb, h⟩ := h
  exact ⟨es, ck, hk.trans hb, h⟩
theorem KnAt.keep {w w' : World} {a b n : Nat} {k : Kn} (h : KnAt w a b n k) (ha : w'.heap[a]? = w.heap[a]?) (hb : w'.heap[b]? = w.heap[b]?) : KnAt w' a b n k := by
  obtain ⟨D1, h1, v1⟩ := h.txt
  obtain ⟨D2, h2, v2⟩ := h.stk
  exact ⟨h.ne, ⟨D1, ownsMap_keep h1 ha, v1⟩, ⟨D2, ownsMap_keep h2 hb, v2⟩⟩
theorem KnAt.mono {w : World} {a b n : Nat} {k : Kn} (h : KnAt w a b n k) : KnAt w a b (n + 1) k :=
  ⟨h.ne, (by obtain ⟨D, h1, h2⟩ := h.txt; exact ⟨D, h1.mono (Nat.le_succ _), h2⟩), (by obtain ⟨D, h1, h2⟩ := h.stk; exact ⟨D, h1.mono (Nat.le_succ _), h2⟩)⟩
theorem KnAt.lt {w : World} {a b n : Nat} {k : Kn} (h : KnAt w a b n k) : a < w.heap.size ∧ b < w.heap.size := by
  obtain ⟨D1, h1, v1⟩ := h.txt
  obtain ⟨D2, h2, v2⟩ := h.stk
  exact ⟨h1.lt, h2.lt⟩
theorem KnAt.below {w w' : World} {a b n : Nat} {k : Kn} (h : KnAt w a b n k) (hb : Below w.heap.size w w') : KnAt w' a b n k := h.keep (hb.block _ h.lt.1) (hb.block _ h.lt.2)
theorem KnAt.new (w : World) : KnAt ((w.alloc (.map #[] 0)).alloc (.map #[] 0)) w.heap.size (w.heap.size + 1) 0 kn0 := by
  have h2 := World.ownsMap_made (w.alloc (.map #[] 0)) Tryz.prog 9 asIs
  rw [World.size_alloc] at h2
  exact ⟨by omega, ⟨_, (World.ownsMap_made w Tryz.prog 9 asIs).alloc _, Maps.isMap_empty, fun s => ⟨rfl, fun t h => by cases h⟩⟩, ⟨_, h2, Maps.isMap_empty, fun s => rfl⟩⟩
theorem zero_str (w : World) : (zeroValue 9).run Tryz.prog w = .ok (.string ⟨#[]⟩) w := by
  have h : (Tryz.prog.info? 9).map (fun i => i.zero) = some (some (.string ⟨#[]⟩)) := by kernel_rfl
  obtain ⟨i, hi, hz⟩ := Option.map_eq_some_iff.1 h
  simp [zeroValue, typeInfo, Sem.run_bind, run_program, Result.andThen, hi, hz]
theorem zero_int (w : World) : (zeroValue 3).run Tryz.prog w = .ok (.int .i64 0) w := by
  have h : (Tryz.prog.info? 3).map (fun i => i.zero) = some (some (.int .i64 0)) := by kernel_rfl
  obtain ⟨i, hi, hz⟩ := Option.map_eq_some_iff.1 h
  simp [zeroValue, typeInfo, Sem.run_bind, run_program, Result.andThen, hi, hz]
def txtV (o : Option ByteArray) : Value := .tuple #[.string (o.getD emp), .bool o.isSome]
/-- The look-up of a text. -/
theorem KnAt.look {w : World} {a b n : Nat} {k : Kn} (h : KnAt w a b n k) (s : ByteArray) (hs : s.size ≤ 1000000) :
    (Instr.lookup 99 (.map (some a)) (.string s) true).run Tryz.prog w = .ok (txtV (k.txt s)) w := by
  obtain ⟨D, hD, hv⟩ := h.txt
  obtain ⟨v, ps, hrun, hr⟩ := hD.look_ok Tryz.keyedStr Tryz.underlying99 (zero_str w) (show asIs (.string ⟨#[]⟩) = some (.held (.string ⟨#[]⟩), []) from rfl) (keyOf_s hs)
  rw [hrun, (hv.2 s).1]
  simp only [asIs, Option.some.injEq, Prod.mk.injEq] at hr
  unfold txtV
  cases hx : k.txt s with
  | some t =>
    rw [(hv.2 s).2 t hx] at hr
    obtain ⟨h1, _⟩ := hr
    cases h1
    rfl
  | none =>
    rw [Maps.atKey_of_not_has (by rw [(hv.2 s).1, hx]; rfl)] at hr
    obtain ⟨h1, _⟩ := hr
    cases h1
    rfl
/-- The look-up of a stock. -/
theorem KnAt.lookI {w : World} {a b n : Nat} {k : Kn} (h : KnAt w a b n k) (s : ByteArray) (hs : s.size ≤ 1000000) :
    (Instr.lookup 100 (.map (some b)) (.string s) false).run Tryz.prog w = .ok (.int .i64 (k.stk s)) w := by
  obtain ⟨D, hD, hv⟩ := h.stk
  obtain ⟨v, ps, hrun, hr⟩ := hD.lookup Tryz.keyedStr Tryz.underlying100 (zero_int w) (show asIs (.int .i64 0) = some (.held (.int .i64 0), []) from rfl) (keyOf_s hs)
  rw [hrun]
  simp only [asIs, Option.some.injEq, Prod.mk.injEq] at hr
  rw [hv.2 s] at hr
  obtain ⟨h1, _⟩ := hr
  cases h1
  rfl
theorem KnAt.put {w w' : World} {a b n : Nat} {k : Kn} (h : KnAt w a b n k) {s t : ByteArray} {D : DataW Value} (hv : TxtView D k.txt) (hD : w'.ownsMap Tryz.prog 9 asIs a (n + 1) (D.put (keyS s) (.held (.string t)))) (hg : w.grownBy w' (some a)) : KnAt w' a b (n + 1) ⟨upd k.txt s (some t), k.stk⟩ := by
  obtain ⟨D2, h2, v2⟩ := h.stk
  exact ⟨h.ne, ⟨_, hD, hv.put s t⟩, ⟨D2, (h2.kept hg (by simpa using h.ne.symm)).mono (Nat.le_succ _), v2⟩⟩
theorem KnAt.add {w w' : World} {a b n : Nat} {k : Kn} (h : KnAt w a b n k) {s : ByteArray} {m : Int} {D : DataW Value} (hv : StkView D k.stk) (hD : w'.ownsMap Tryz.prog 9 asIs b (n + 1) (D.put (keyS s) (.held (.int .i64 m)))) (hg : w.grownBy w' (some b)) : KnAt w' a b (n + 1) ⟨k.txt, upd k.stk s m⟩ := by
  obtain ⟨D1, h1, v1⟩ := h.txt
  exact ⟨h.ne, ⟨D1, (h1.kept hg (by simpa using h.ne)).mono (Nat.le_succ _), v1⟩, ⟨_, hD, hv.put s m⟩⟩

/-! ### The deeds -/
def knV (a b : Nat) : Value := .agg #[.map (some a), .map (some b)]
/-- What a deed hands back, and what becomes of the maps. -/
def SayPost (a b n : Nat) (r : (ByteArray × Int) × Kn) (w : World) (e : Ending) (w' : World) : Prop := e = .returned (.tuple #[.string r.1.1, .int .i64 r.1.2]) ∧ KnAt w' a b (n + 1) r.2 ∧ Off [a, b] w w'
theorem off_grown {w W W' : World} {m : Nat} {F : List Nat} (h : Below w.heap.size w W) (hg : W.grownBy W' (some m)) (hm : m ∈ F) : Off F w W' :=
  ⟨hg.os.trans h.os, hg.tape.trans h.tape, hg.output.trans h.output, Nat.le_trans h.size hg.size, fun k h1 h2 => (hg.block k (Nat.lt_of_lt_of_le h1 h.size) (fun e => by cases e; exact h2 hm)).trans (h.block k h1)⟩
set_option maxHeartbeats 1000000 in
theorem put_say (a b n : Nat) (k : Kn) (s t : ByteArray) (hs : s.size ≤ 1000000) (hn : n ≤ 1000) (w : World) (h : KnAt w a b n k) :
    Calls Tryz.prog 284 #[.agg #[.string s, .string t], knV a b] w (SayPost a b n (sayB (.put s t) k) w) := by
  have hB : Below w.heap.size w ((w.alloc (.cells #[.string s, .string t] 136)).alloc (.cells #[.map (some a), .map (some b)] 102)) := ((Below.refl _ w).alloc (Nat.le_refl _) _).alloc (by simp) _
  have HA := Lib.hid h.lt.1
  have HK := Lib.hid (h.below hB)
  have HB := Lib.hid hB
  obtain ⟨D, hD, hv⟩ := HK.out.txt
  have HV := Lib.hid hv
  have hk := keyOf_s hs
  have HKey := Lib.hid hk
  clear h hB hv hk
  unfold knV
  go_enter Tryz.func284, Tryz.ntmps284
  go_wp2_with (at_mapUpdate; refine wpList_mapUpdate_own _ rfl _ _ _ 99 rfl 9 9 Tryz.keyedStr Tryz.underlying99 asIs a n D rfl hD (by unfold maxLen; omega) _ _ (keyS s) rfl rfl HKey.out (.held (.string t)) [] rfl ?_)
  intro w1 hD1 hg1
  have hlt := HK.out.lt
  have c1 : w1.cell? ⟨w.heap.size, 1, none⟩ = some (.string t) := by
    refine (World.cell?_of_block (hg1.block _ (by simp; omega) (fun e => ?_))).trans (by simp)
    have e2 : w.heap.size = a := Option.some.inj e
    have := HA.out
    omega
  have HK1 := Lib.hid (HK.out.put HV.out hD1 hg1)
  have HO1 := Lib.hid (off_grown HB.out hg1 (F := [a, b]) (by simp))
  clear hD1 hg1 hlt hD
  go_wp2
  go_ret2
  exact ⟨rfl, HK1.out, HO1.out⟩
theorem off_turned {w W W' : World} {m : Nat} {F : List Nat} (h : Below w.heap.size w W) (hg : W.mapTurned W' m) (hm : m ∈ F) : Off F w W' := off_grown h hg.grown hm
set_option maxHeartbeats 1000000 in
theorem drop_say (a b n : Nat) (k : Kn) (s : ByteArray) (hs : s.size ≤ 1000000) (_hn : n ≤ 1000) (w : World) (h : KnAt w a b n k) :
    Calls Tryz.prog 285 #[.agg #[.string s], knV a b] w (SayPost a b n (sayB (.drop s) k) w) := by
  have hB : Below w.heap.size w ((w.alloc (.cells #[.string s] 138)).alloc (.cells #[.map (some a), .map (some b)] 102)) := ((Below.refl _ w).alloc (Nat.le_refl _) _).alloc (by simp) _
  have HK := Lib.hid (h.below hB)
  have HB := Lib.hid hB
  have hlook := HK.out.look s hs
  obtain ⟨D, hD, hv⟩ := HK.out.txt
  have HV := Lib.hid hv
  have hk := keyOf_s hs
  have HKey := Lib.hid hk
  clear h hB hv hk
  unfold knV
  cases hx : k.txt s with
  | none =>
    rw [hx] at hlook
    have HR : Hid (sayB (.drop s) k = ((emp, 5), k)) := Lib.hid (by simp only [sayB, hx])
    rw [HR.out]
    unfold txtV emp at hlook
    simp only [Option.getD_none, Option.isSome_none] at hlook
    clear hx
    go_enter Tryz.func285, Tryz.ntmps285
    go_wp2
    go_ret2
    exact ⟨rfl, ⟨HK.out.ne, (by obtain ⟨D, h1, h2⟩ := HK.out.txt; exact ⟨D, h1.mono (Nat.le_succ _), h2⟩), (by obtain ⟨D, h1, h2⟩ := HK.out.stk; exact ⟨D, h1.mono (Nat.le_succ _), h2⟩)⟩, Off.of_below HB.out⟩
  | some t =>
    rw [hx] at hlook
    have HR : Hid (sayB (.drop s) k = ((t, 0), ⟨upd k.txt s none, k.stk⟩)) := Lib.hid (by simp only [sayB, hx])
    rw [HR.out]
    unfold txtV at hlook
    simp only [Option.getD_some, Option.isSome_some] at hlook
    clear hx
    go_enter Tryz.func285, Tryz.ntmps285
    go_wp2_with (at_delete; refine wpList_delete_own _ rfl _ _ 99 9 rfl 9 Tryz.keyedStr Tryz.underlying99 asIs a n D rfl hD _ (keyS s) rfl HKey.out ?_)
    intro w1 hD1 hg1
    have HK1 : Hid (KnAt w1 a b (n + 1) ⟨upd k.txt s none, k.stk⟩) := Lib.hid (by
      obtain ⟨D2, h2, v2⟩ := HK.out.stk
      exact ⟨HK.out.ne, ⟨_, hD1.mono (Nat.le_succ _), HV.out.del s⟩, ⟨D2, (h2.kept hg1.grown (by simpa using HK.out.ne.symm)).mono (Nat.le_succ _), v2⟩⟩)
    have HO1 := Lib.hid (off_turned HB.out hg1 (F := [a, b]) (by simp))
    clear hD1 hg1 hD hlook
    go_wp2
    go_ret2
    exact ⟨rfl, HK1.out, HO1.out⟩
set_option maxHeartbeats 1000000 in
theorem add_say (a b n : Nat) (k : Kn) (s : ByteArray) (m : Int) (hs : s.size ≤ 1000000) (hn : n ≤ 1000) (hk0 : -100000000 ≤ k.stk s ∧ k.stk s ≤ 100000000) (hm : -9999 ≤ m ∧ m ≤ 9999) (w : World) (hV : Vars w) (h : KnAt w a b n k) (ha : ¬ isVar a) (hb : ¬ isVar b) :
    Calls Tryz.prog 287 #[.agg #[.string s, .int .i64 m], knV a b] w (SayPost a b n (sayB (.add s m) k) w) := by
  have hB : Below w.heap.size w ((w.alloc (.cells #[.string s, .int .i64 m] 143)).alloc (.cells #[.map (some a), .map (some b)] 102)) := ((Below.refl _ w).alloc (Nat.le_refl _) _).alloc (by simp) _
  have HL0 := Lib.hid h.lt
  have HK := Lib.hid (h.below hB)
  have HB := Lib.hid hB
  have HVR := Lib.hid hV
  have hlook := HK.out.lookI s hs
  obtain ⟨D, hD, hv⟩ := HK.out.stk
  have HV := Lib.hid hv
  have hk := keyOf_s hs
  have HKey := Lib.hid hk
  have HS := Lib.hid hs
  have HAV := Lib.hid (And.intro ha hb)
  clear h hB hv hk hV ha hb
  unfold knV
  have HR : Hid (sayB (.add s m) k = ((itoaB (k.stk s + m), 0), ⟨k.txt, upd k.stk s (k.stk s + m)⟩)) := Lib.hid rfl
  rw [HR.out]
  obtain ⟨z, hz⟩ : ∃ z, z = k.stk s := ⟨_, rfl⟩
  have HZ := Lib.hid hz
  rw [← hz] at hlook hk0 ⊢
  clear hz
  obtain ⟨hk1, hk2⟩ := hk0
  obtain ⟨hm1, hm2⟩ := hm
  have hwr : IntKind.i64.wrap (z + m) = z + m := IntWalk.i64_in _ (by omega)
  go_enter Tryz.func287, Tryz.ntmps287
  go_wp2_with (at_mapUpdate; refine wpList_mapUpdate_own _ rfl _ _ _ 100 rfl 9 3 Tryz.keyedStr Tryz.underlying100 asIs b n D rfl hD (by unfold maxLen; omega) _ _ (keyS s) rfl rfl HKey.out (.held (.int .i64 (z + m))) [] rfl ?_)
  intro w1 hD1 hg1
  have hl0 := HL0.out
  have hblk : ∀ j, j = w.heap.size ∨ j = w.heap.size + 1 → w1.heap[j]? = ((w.alloc (.cells #[.string s, .int .i64 m] 143)).alloc (.cells #[.map (some a), .map (some b)] 102)).heap[j]? := fun j hj => hg1.block _ (by simp; omega) (fun e => by
    have e2 : j = b := Option.some.inj e
    omega)
  have c1 : w1.cell? ⟨w.heap.size, 0, none⟩ = some (.string s) := (World.cell?_of_block (hblk _ (.inl rfl))).trans (by simp)
  have c2 : w1.cell? ⟨w.heap.size + 1, 1, none⟩ = some (.map (some b)) := (World.cell?_of_block (hblk _ (.inr rfl))).trans (by simp)
  have HK1 := Lib.hid (HK.out.add HV.out hD1 hg1)
  have HO1 := Lib.hid (off_grown HB.out hg1 (F := [a, b]) (by simp))
  have hlook1 := HK1.out.lookI s HS.out
  have hst : upd k.stk s (z + m) s = z + m := upd_same _ _ _
  rw [show (Kn.mk k.txt (upd k.stk s (z + m))).stk s = z + m from hst] at hlook1
  have HV1 : Hid (Vars w1) := Lib.hid (HVR.out.keep fun j hj => HO1.out.block j (HVR.out.lt hj) (fun hm => by
    rcases (by simpa using hm : j = a ∨ j = b) with rfl | rfl
    · exact HAV.out.1 hj
    · exact HAV.out.2 hj))
  clear hD1 hg1 hD hlook hblk hst hl0
  go_wp2_with fail
  refine (itoa_any (z + m) (by omega) (by omega) w1 HV1.out).mono ?_
  rintro e w2 ⟨rfl, hb2⟩
  have HK2 := Lib.hid (HK1.out.below hb2)
  have HO2 := Lib.hid (HO1.out.trans (Off.of_below hb2))
  clear hb2
  go_wp2
  go_ret2
  exact ⟨rfl, HK2.out, HO2.out⟩
end Go.Proofs.YtdfkaijeppdhaaaGreatDoor
