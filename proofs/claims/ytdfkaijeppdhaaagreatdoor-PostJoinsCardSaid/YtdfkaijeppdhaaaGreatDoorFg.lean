/- Contracts: asked.ask, whatever answers; text; stock.ask. -/
import Derived.Test.YtdfkaijeppdhaaaGreatDoorEl
namespace Go.Proofs.YtdfkaijeppdhaaaGreatDoor
open Go.RowKit Go.Shelf

theorem Tryz.infoStr : (Tryz.prog.info? 9).map (fun i => (i.zero, i.size, i.bytes)) = some (some (.string ⟨#[]⟩), 1, 16) := by kernel_rfl
theorem allG_take {α β : Type} {f : α → Option β} {d : α} {l : List α} {k : Nat} (h : k < l.length) : allS f (l.take (k + 1)) = match allS f (l.take k), f (l.getD k d) with
    | some ys, some y => some (ys ++ [y])
    | _, _ => none := by
  rw [List.take_succ_eq_append_getElem h, allS_snoc, List.getD_eq_getElem?_getD, List.getElem?_eq_getElem h, Option.getD_some]
  cases allS f (l.take k) <;> rfl
theorem allG_none {α β : Type} {f : α → Option β} {l : List α} {x : α} (hx : x ∈ l) (h : f x = none) : allS f l = none := allS_bad f l hx h
/-- What a question about texts answers. -/
def askedV (ans : List ByteArray → ByteArray × Int) (names : List ByteArray) (kn : Kn) : ByteArray × Int := match allS kn.txt names with
  | none => (emp, 5)
  | some ts => if (ans ts).2 = 0 then ((ans ts).1, 0) else (emp, (ans ts).2)
def AnsPost (r : ByteArray × Int) (w : World) (e : Ending) (w' : World) : Prop := e = .returned (.tuple #[.string r.1, .int .i64 r.2]) ∧ Below w.heap.size w w'
set_option maxRecDepth 100000 in
set_option maxHeartbeats 4000000 in
theorem asked_any (gf : Nat) (eg : ∀ args w, (callFunc gf args).run Tryz.prog w = .ok (.enter gf args) w) (ans : List ByteArray → ByteArray × Int) (nv bv : Value) (names : List ByteArray) (ns : List Int) (a b n : Nat) (kn : Kn) (w : World)
    (hN : StrsAt w nv names) (hI : IntsAt w bv ns) (h0 : 0 < names.length) (hl : names.length ≤ 1000) (hsz : ∀ x ∈ names, x.size ≤ 8) (hK : KnAt w a b n kn)
    (hans : ∀ W base tv ts, Below w.heap.size w W → base ≤ W.heap.size → W.ownsRow base 9 1 tv ts.length (ts.map Value.string) → allS kn.txt names = some ts → Calls Tryz.prog gf #[tv, bv] W (AnsPost (ans ts) W)) :
    Calls Tryz.prog 338 #[.agg #[nv, bv, .func (.func gf) #[] #[]], knV a b] w (AnsPost (askedV ans names kn) w) := by
  obtain ⟨i0, hi0, hz0, hz1, hz2⟩ := info_parts Tryz.infoStr
  obtain ⟨R, hR⟩ : ∃ R, R = askedV ans names kn := ⟨_, rfl⟩
  have HR := Lib.hid hR
  rw [← hR]
  clear hR
  obtain ⟨bk, off, cap, rfl, hcap, hcc, hq⟩ := hN.cons h0
  obtain ⟨ia, icap, hbv, _⟩ := id hI
  obtain ⟨w1, hw1⟩ : ∃ w1, w1 = (w.alloc (.cells #[.slice (some ⟨bk, off, none⟩) names.length cap, bv, .func (.func gf) #[] #[]] 185)).alloc (.cells #[.map (some a), .map (some b)] 102) := ⟨_, rfl⟩
  have hb1 : Below w.heap.size w w1 := by rw [hw1]; exact ((Below.refl _ w).alloc (Nat.le_refl _) _).alloc (by simp) _
  have HB1 := Lib.hid hb1
  have HQ := Lib.hid (fun j hj => keep_cell hb1 (hq j hj))
  have HK1 := Lib.hid (hK.below hb1)
  have HE1 : Hid (w1.heap[w.heap.size]? = some (.cells #[.slice (some ⟨bk, off, none⟩) names.length cap, bv, .func (.func gf) #[] #[]] 185 (0, 0))) := Lib.hid (by
    rw [hw1]; exact (Below.heap_alloc _ _ _ (by simp)).trans (World.alloc_heap_new w _))
  have HE2 : Hid (w1.heap[w.heap.size + 1]? = some (.cells #[.map (some a), .map (some b)] 102 (0, 0))) := Lib.hid (by
    have := World.alloc_heap_new (w.alloc (.cells #[.slice (some ⟨bk, off, none⟩) names.length cap, bv, .func (.func gf) #[] #[]] 185)) (.cells #[.map (some a), .map (some b)] 102)
    rw [World.size_alloc] at this
    rw [hw1]; exact this)
  have HANS := Lib.hid hans
  have HSZ := Lib.hid hsz
  have HZ1 : Hid (w1.heap.size = w.heap.size + 2) := Lib.hid (by rw [hw1]; simp)
  have HW1 := Lib.hid hw1
  obtain ⟨nl, hnl⟩ : ∃ nl, nl = names.length := ⟨_, rfl⟩
  have HN := Lib.hid hnl
  rw [← hnl] at hcap h0 hl HE1 HW1 ⊢
  clear hnl hw1 hb1 hN hI hK hans hsz hq
  subst hbv
  unfold knV
  go_enter Tryz.func338, Tryz.ntmps338
  go_wp2_with fail
  rw [← HW1.out]
  have HL1 := Lib.hid HZ1.out
  go_loopw [6, 16] (fun o i wr => ∃ (k : Nat) (ts : List ByteArray), k ≤ nl ∧ i = .int .i64 k ∧ Hid (allS kn.txt (names.take k) = some ts) ∧ Hid (ts.length = k) ∧ wr.ownsRow w1.heap.size 9 1 o k (ts.map Value.string) ∧ Below w1.heap.size w1 wr) (fun _ i _ => nl - (intOf i).toNat)
  case atStart => exact ⟨0, [], Nat.zero_le _, rfl, Lib.hid rfl, Lib.hid rfl, World.ownsRow_nil _ _ _ _, Below.refl _ _⟩
  case round =>
    obtain ⟨k, ts, hk, rfl, hall, hlen, hown, hbel⟩ := hrel
    have hsz1 := hbel.size
    have e0 := keep_cell hbel (heap_cell (j := 0) HE1.out rfl)
    have e1 := keep_cell hbel (heap_cell (j := 1) HE1.out rfl)
    have e2 := keep_cell hbel (heap_cell (j := 2) HE1.out rfl)
    have e3 := keep_cell hbel (heap_cell (j := 0) HE2.out rfl)
    have e4 := keep_cell hbel (heap_cell (j := 1) HE2.out rfl)
    by_cases hlt : k < nl
    · have hc := keep_cell hbel (HQ.out k (by rw [← HN.out]; exact hlt))
      have HS := Lib.hid (allG_take (f := kn.txt) (d := emp) (l := names) (k := k) (by rw [← HN.out]; exact hlt))
      have hmem : names.getD k emp ∈ names := by rw [List.getD_eq_getElem?_getD, List.getElem?_eq_getElem (by rw [← HN.out]; exact hlt)]; exact List.getElem_mem _
      have HM := Lib.hid hmem
      have HXS := HSZ.out _ hmem
      clear hmem
      generalize names.getD k emp = x at *
      have hlook := (HK1.out.below hbel).look x (by omega)
      have HB := Lib.hid hbel
      have HO := Lib.hid hown
      clear hbel hown
      cases hx : kn.txt x with
      | some y =>
        rw [hx] at HS hlook
        unfold txtV at hlook
        simp only [Option.getD_some, Option.isSome_some] at hlook
        clear hx
        go_wp2_with (at_builtin; refine wpList_append_own _ rfl _ _ 22 rfl w1.heap.size 9 i0 (.string ⟨#[]⟩) 1 16 Tryz.underlying22 hi0 hz0 hz1 hz2 rfl (by decide) _ _ _ rfl (HO.out.alloc _) ⟨wr.heap.size, 0, none⟩ 1 1 [.string y] rfl rfl ?c1 ?c2 ?c3 ?c4 ?c5 ?_)
        case c1 => exact (cell_one_new _ _ _)
        case c2 => intro u hu; simp at hu; subst hu; rfl
        case c3 => unfold maxLen; omega
        case c4 => omega
        case c5 => simp; omega
        · intro v' w2 hown' hgrow _
          have R := below_append HB.out hsz1 HO.out (Nat.le_refl _) hgrow
          clear hgrow
          go_wp2
          go_roundw
          case rel => exact ⟨k + 1, ts ++ [y], by omega, by go_num, Lib.hid (by rw [HS.out, hall.out]), Lib.hid (by rw [List.length_append, hlen.out]; rfl), by rw [List.map_append]; exact hown', R⟩
          case measure => simp [intOf]; omega
      | none =>
        have HRX : Hid (R = (emp, 5)) := Lib.hid (by rw [HR.out]; unfold askedV; rw [allG_none HM.out hx])
        rw [hx] at hlook
        unfold txtV emp at hlook
        simp only [Option.getD_none, Option.isSome_none] at hlook
        clear hx
        go_wp2
        go_ret2
        rw [HRX.out]
        exact ⟨rfl, HB1.out.trans (HB.out.mono HB1.out.size)⟩
    · have e : k = nl := by omega
      subst e
      have hts : allS kn.txt names = some ts := by
        have := hall.out
        rw [HN.out, List.take_length] at this
        exact this
      have HB := Lib.hid (HB1.out.trans (hbel.mono HB1.out.size))
      have HA := Lib.hid (HANS.out wr w1.heap.size _ ts HB.out hsz1 (by rw [hlen.out]; exact hown) hts)
      have HRR : Hid (R = if (ans ts).2 = 0 then ((ans ts).1, 0) else (emp, (ans ts).2)) := Lib.hid (by rw [HR.out]; unfold askedV; rw [hts])
      clear hown hbel hts
      generalize ans ts = r at *
      obtain ⟨rs, re⟩ := r
      by_cases hz : re = 0
      · subst hz
        have HRX : Hid (R = (rs, 0)) := Lib.hid (by rw [HRR.out]; rfl)
        go_wp2_with fail
        refine HA.out.mono ?_
        rintro e w5 ⟨rfl, h5⟩
        go_wp2
        go_ret2
        rw [HRX.out]
        exact ⟨rfl, below_trans HB.out h5⟩
      · have HRX : Hid (R = (emp, re)) := Lib.hid (by rw [HRR.out]; simp only; rw [if_neg hz])
        have z0 : (re != 0) = true := by simpa using hz
        go_wp2_with fail
        refine HA.out.mono ?_
        rintro e w5 ⟨rfl, h5⟩
        go_wp2
        go_ret2
        rw [HRX.out]
        exact ⟨rfl, below_trans HB.out h5⟩
/-- The text of one name. -/
def ansText (ts : List ByteArray) : ByteArray × Int := (ts.getD 0 emp, 0)
set_option maxHeartbeats 400000 in
theorem text_kind (W : World) (base : Nat) (tv bv : Value) (ts : List ByteArray) (h : W.ownsRow base 9 1 tv ts.length (ts.map Value.string)) (h0 : 0 < ts.length) (hl : ts.length ≤ 1000) : Calls Tryz.prog 116 #[tv, bv] W (AnsPost (ansText ts) W) := by
  rcases h.2 with ⟨_, h1⟩ | ⟨g, cap, cur, rfl, _⟩
  · omega
  · have c0 := h.cellAt 0 (by omega)
    rw [List.getElem?_map, List.getElem?_eq_getElem h0] at c0
    have hx : ansText ts = (ts[0], 0) := by unfold ansText; rw [List.getD_eq_getElem?_getD, List.getElem?_eq_getElem h0]; rfl
    rw [hx]
    generalize ts[0] = x at *
    generalize ts.length = n at *
    simp only [Option.map_some] at c0
    clear h hx
    go_enter Tryz.func116, Tryz.ntmps116
    go_wp2
    go_ret2
    exact ⟨rfl, Below.refl _ _⟩
end Go.Proofs.YtdfkaijeppdhaaaGreatDoor
