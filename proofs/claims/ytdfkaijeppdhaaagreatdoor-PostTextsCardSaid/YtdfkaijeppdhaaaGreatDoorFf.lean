/- Texts of this claim, laid together: Fd, Fe, Ff. -/
import Derived.Test.YtdfkaijeppdhaaaGreatDoorEg
import Derived.Test.YtdfkaijeppdhaaaGreatDoorEu
import Derived.Test.YtdfkaijeppdhaaaGreatDoorRf
import Derived.Shelf.Strings.BuilderK
import Derived.Test.YtdfkaijeppdhaaaGreatDoorFc

/- Contracts: writing into a strings.Builder; the text of a book. -/
namespace Go.Proofs.YtdfkaijeppdhaaaGreatDoor
open Go.RowKit Go.Shelf

def ren167 : Go.Shelf.Ren := ⟨fun | 167 => 92 | 240 => 120 | 276 => 153 | n => n, fun | 31 => 22 | 9 => 9 | 3 => 3 | 4 => 4 | 0 => 0 | 20 => 20 | 72 => 151 | 76 => 154 | 70 => 149 | 37 => 65 | 75 => 153 | 127 => 186 | 164 => 217 | 5 => 5 | 80 => 55 | n => n, fun | n => n⟩
theorem lays167 : Go.Proofs.Lays.n167 Tryz.prog ren167 := {
  mixed := Tryz.lays156.mixed
  f167 := Tryz.func92.trans (congrArg some (by kernel_rfl))
  f240 := Tryz.func120.trans (congrArg some (by kernel_rfl))
  f276 := Tryz.func153.trans (congrArg some (by kernel_rfl))
  t0 := Tryz.lays156.t0
  a0 := Tryz.lays156.a0
  z0 := Tryz.lays156.z0
  v0 := Tryz.lays156.v0
  t4 := Tryz.lays156.t4
  a4 := Tryz.lays156.a4
  z4 := Tryz.lays156.z4
  v4 := Tryz.lays156.v4
  t5 := Tryz.underlying5
  a5 := Tryz.isAgg5
  z5 := Tryz.sizeOf5
  v5 := Tryz.zeroValue5
  t9 := Tryz.lays156.t9
  a9 := Tryz.lays156.a9
  z9 := Tryz.lays156.z9
  v9 := Tryz.lays156.v9
  t20 := Tryz.lays156.t20
  a20 := Tryz.lays156.a20
  z20 := Tryz.lays156.z20
  v20 := Tryz.lays156.v20
  t37 := Tryz.lays156.t37
  a37 := Tryz.lays156.a37
  z37 := Tryz.lays156.z37
  v37 := Tryz.lays156.v37
  t70 := Tryz.lays156.t70
  a70 := Tryz.lays156.a70
  z70 := Tryz.lays156.z70
  v70 := Tryz.lays156.v70
  t72 := Tryz.lays156.t72
  a72 := Tryz.lays156.a72
  z72 := Tryz.lays156.z72
  v72 := Tryz.lays156.v72
  t75 := Tryz.lays156.t75
  a75 := Tryz.lays156.a75
  z75 := Tryz.lays156.z75
  v75 := Tryz.lays156.v75
  t164 := Tryz.lays156.t164
  a164 := Tryz.lays156.a164
  z164 := Tryz.lays156.z164
  v164 := Tryz.lays156.v164 }
theorem extra167 : Builder.Extra Tryz.prog ren167 := {
  sizeBuilder := by kernel_rfl
  liesBuilder := by kernel_rfl
  t5 := Tryz.underlying5
  a5 := Tryz.isAgg5
  z5 := Tryz.sizeOf5
  v5 := Tryz.zeroValue5
  infoByte := by kernel_rfl
  cellsByte := by kernel_rfl
  sizeByte := by kernel_rfl
  neB5 := by decide }
/-- A builder that holds l. -/
def Bld (b : Nat) (l : List UInt8) (w : World) : Prop := Lib.IsBuilderF 151 5 b b (Lib.byteCells l) w
theorem Bld.lt {b : Nat} {l : List UInt8} {w : World} (h : Bld b l w) : b < w.heap.size := by rcases h with h | h <;> exact h.lt
theorem byteCells_append (l m : List UInt8) : Lib.byteCells (l ++ m) = Lib.byteCells l ++ Lib.byteCells m := by simp [Lib.byteCells]
theorem Bld.new (w : World) : Bld w.heap.size [] (w.alloc (.cells #[.pointer none, .slice none 0 0] 151)) := Lib.IsBuilderF.of (Lib.fresh_isBuilder 151 5 w)
theorem Bld.alloc {b : Nat} {l : List UInt8} {w : World} (h : Bld b l w) (o : Obj) : Bld b l (w.alloc o) := by
  rcases h with h | h
  · exact .inl (h.alloc o)
  · exact .inr (h.alloc o)
theorem Bld.drewN {b : Nat} {l : List UInt8} {w : World} (h : Bld b l w) (k : Nat) : Bld b l (w.drewN k) := h
theorem BuilderAtF_kept {T e : TypeId} {B b : Nat} {p : Value} {bs : List Value} {w w' : World} (h : Lib.BuilderAtF T e B b p bs w) (hb : Below w.heap.size w w') : Lib.BuilderAtF T e B b p bs w' := by
  have hlt := h.lt
  obtain ⟨hB, v, hbk, hown, hne⟩ := h
  refine ⟨hB, v, (hb.block b hlt).trans hbk, hown.kept (row := none) ⟨hb.os, hb.tape, hb.output, hb.size, fun k hk _ => hb.block k hk⟩ (by cases v.ownBlock <;> simp), hne⟩
theorem Bld.below {b : Nat} {l : List UInt8} {w w' : World} (h : Bld b l w) (hb : Below w.heap.size w w') : Bld b l w' := by
  rcases h with h | h
  · exact .inl (BuilderAtF_kept h hb)
  · exact .inr (BuilderAtF_kept h hb)
/-- What a write leaves. -/
structure Wrote (b : Nat) (l : List UInt8) (w w' : World) : Prop where
  bld : Bld b l w'
  below : Below b w w'
  kept : Lib.OthersKept 5 (some b) w w'
theorem ws_any (b : Nat) (l : List UInt8) (s : ByteArray) (w : World) (h : Bld b l w) (hl : l.length + s.size ≤ 1000000) :
    Calls Tryz.prog 91 #[.pointer (some ⟨b, 0, none⟩), .string s] w fun e w' => e = .returned (.tuple #[.int .i64 s.size, .nilIface]) ∧ Wrote b (l ++ s.data.toList) w w' := by
  refine (Any.Builder_WriteString_k { Tryz.lays156 with } Tryz.Builder_Extra_156 b b (Lib.byteCells l) s w h (by rw [Lib.byteCells_length]; omega) (Nat.le_of_lt h.lt)).mono ?_
  rintro e w' ⟨rfl, h1, h2, h3⟩
  exact ⟨rfl, .inr (by rw [byteCells_append]; exact h1), h2, h3⟩
theorem wb_any (b : Nat) (l : List UInt8) (c : UInt8) (w : World) (h : Bld b l w) (hl : l.length + 1 ≤ 1000000) :
    Calls Tryz.prog 92 #[.pointer (some ⟨b, 0, none⟩), .int .u8 (c.toNat : Int)] w fun e w' => e = .returned .nilIface ∧ Wrote b (l ++ [c]) w w' := by
  refine (Any.Builder_WriteByte_k lays167 extra167 b b (Lib.byteCells l) (c.toNat : Int) w h (by rw [Lib.byteCells_length]; omega) (Nat.le_of_lt h.lt)).mono ?_
  rintro e w' ⟨rfl, h1, h2, h3⟩
  exact ⟨rfl, .inr (by rw [byteCells_append]; exact h1), h2, h3⟩
theorem bs_any (b : Nat) (l : List UInt8) (w : World) (h : Bld b l w) :
    Calls Tryz.prog 93 #[.pointer (some ⟨b, 0, none⟩)] w fun e w' => e = .returned (.string ⟨l.toArray⟩) ∧ Below b w w' := by
  refine (Any.Builder_String_any_f Tryz.lays169 Tryz.Builder_Extra_169 b b l w h (Nat.le_of_lt h.lt)).mono ?_
  rintro e w' ⟨rfl, _, h2⟩
  exact ⟨rfl, h2⟩
end Go.Proofs.YtdfkaijeppdhaaaGreatDoor

/- Contracts: the text of a book. -/
namespace Go.Proofs.YtdfkaijeppdhaaaGreatDoor
open Go.RowKit Go.Shelf

def numE (e : Ent) : List Int := [ePost e, eNum e, eCnt e]
def numsT (e : Ent) (j : Nat) : List UInt8 := ((numE e).take j).flatMap fun n => Lib.itoa n ++ [32]
theorem numsT_next (e : Ent) {j : Nat} (h : j < 3) : numsT e (j + 1) = numsT e j ++ (Lib.itoa ((numE e).getD j 0) ++ [32]) := by
  unfold numsT numE
  rcases (show j = 0 ∨ j = 1 ∨ j = 2 by omega) with rfl | rfl | rfl <;> simp
theorem lineT_nums (e : Ent) : lineT e = numsT e 3 ++ ((eLine e).data.toList ++ [10]) := by
  unfold lineT numsT numE
  simp
theorem textL_take {l : List Ent} {k : Nat} (h : k < l.length) : textL (l.take (k + 1)) = textL (l.take k) ++ lineT (l.getD k noE) := by
  unfold textL
  rw [List.take_add_one, List.flatMap_append, List.getElem?_eq_getElem h, List.getD_eq_getElem?_getD, List.getElem?_eq_getElem h]
  simp
theorem itoa_short {n : Int} (h0 : 0 ≤ n) (h1 : n ≤ 1000000) : (Lib.itoa n).length ≤ 11 := itoa_len (by omega) (by omega)
theorem num_bounds {e : Ent} (h : (0 ≤ ePost e ∧ ePost e ≤ 3) ∧ (1 ≤ eNum e ∧ eNum e ≤ 60) ∧ (1 ≤ eCnt e ∧ eCnt e ≤ 1000000)) {j : Nat} (hj : j < 3) : 0 ≤ (numE e).getD j 0 ∧ (numE e).getD j 0 ≤ 1000000 := by
  unfold numE
  rcases (show j = 0 ∨ j = 1 ∨ j = 2 by omega) with rfl | rfl | rfl <;> simp <;> omega
theorem numsT_len {e : Ent} (h : (0 ≤ ePost e ∧ ePost e ≤ 3) ∧ (1 ≤ eNum e ∧ eNum e ≤ 60) ∧ (1 ≤ eCnt e ∧ eCnt e ≤ 1000000)) : ∀ j, j ≤ 3 → (numsT e j).length ≤ 12 * j
  | 0, _ => by simp [numsT]
  | j + 1, hj => by
    have h1 := numsT_len h j (by omega)
    have h2 := num_bounds h (j := j) (by omega)
    have h3 := itoa_short h2.1 h2.2
    rw [numsT_next e (by omega)]
    simp only [List.length_append, List.length_singleton]
    omega
theorem textL_len {l : List Ent} (h : ∀ e ∈ l, (lineT e).length ≤ 200) : (textL l).length ≤ 200 * l.length := by
  induction l with
  | nil => simp [textL]
  | cons e l ih =>
    have h1 := ih fun x hx => h x (by simp [hx])
    have h2 := h e (by simp)
    show (lineT e ++ textL l).length ≤ _
    rw [List.length_append, List.length_cons]
    omega
theorem line_small {e : Ent} (h : lineB (eLine e) = true) : (eLine e).data.toList.length ≤ 60 := by
  rw [lineB_is, isLineB_iff, ba_size] at h
  exact h.1
theorem lineT_small {e : Ent} (h : (0 ≤ ePost e ∧ ePost e ≤ 3) ∧ (1 ≤ eNum e ∧ eNum e ≤ 60) ∧ (1 ≤ eCnt e ∧ eCnt e ≤ 1000000)) (hl : lineB (eLine e) = true) : (lineT e).length ≤ 200 := by
  have h1 := numsT_len h 3 (by omega)
  have h2 := line_small hl
  rw [lineT_nums, List.length_append, List.length_append, List.length_singleton]
  omega
theorem Lib_kept_cells {b k : Nat} {w w' : World} {cs : Array Value} {t : TypeId} {fr : Nat × Nat} (h : Lib.OthersKept 5 (some b) w w') (hk : w.heap[k]? = some (.cells cs t fr)) (hb : k ≠ b) (ht : t ≠ 5) : w'.heap[k]? = some (.cells cs t fr) :=
  h k _ hk (fun e => hb (by injection e)) (fun c fz e => ht (by injection e))
theorem kept_of_below {b : Nat} {w w' : World} (h : Below w.heap.size w w') : Lib.OthersKept 5 (some b) w w' := fun k _ hk _ _ => (h.block k (Array.getElem?_eq_some_iff.1 hk).1).trans hk
/-- The cells of a list stay when a builder is written. -/
theorem ListAt.cellsK {w : World} {v : Value} {l : List Ent} (h : ListAt w v l) (h0 : 0 < l.length) : ∃ g cap cur, v = .slice (some ⟨g, 0, none⟩) l.length cap ∧ w.heap[g]? = some (.cells cur 43 (0, 0)) ∧
    ∀ W : World, W.heap[g]? = some (.cells cur 43 (0, 0)) → ListAt W v l := by
  rcases h.2 with ⟨_, h1⟩ | ⟨g, cap, cur, rfl, h2, h3, h4⟩
  · omega
  · exact ⟨g, cap, cur, rfl, h3, fun W hW => ⟨h.1, .inr ⟨g, cap, cur, rfl, h2, hW, h4⟩⟩⟩
theorem Wrote.trans {b : Nat} {l l' : List UInt8} {a c d : World} (h : Wrote b l a c) (k : Wrote b l' c d) : Wrote b l' a d := ⟨k.bld, h.below.trans k.below, h.kept.trans k.kept⟩
theorem Wrote.more {b : Nat} {l : List UInt8} {a c d : World} (h : Wrote b l a c) (k : Below c.heap.size c d) : Wrote b l a d := ⟨h.bld.below k, h.below.trans (k.mono (Nat.le_of_lt h.bld.lt)), h.kept.trans (kept_of_below k)⟩
theorem Wrote.refl {b : Nat} {l : List UInt8} {w : World} (h : Bld b l w) : Wrote b l w w := ⟨h, Below.refl _ _, Lib.OthersKept.refl _ _ _⟩
theorem Wrote.same {b : Nat} {l l' : List UInt8} {a c : World} (h : Wrote b l a c) (e : l = l') : Wrote b l' a c := e ▸ h
set_option maxRecDepth 100000 in
set_option maxHeartbeats 8000000 in
theorem text_any (K : Nat) (F : List Nat) (b : Book) (w : World) (h : BookAt w K F b) (hok : BookOk b) (hV : Vars w) :
    Calls Tryz.prog 62 #[.pointer (some ⟨K, 0, none⟩)] w fun e w' => e = .returned (.string (textB b)) ∧ Below w.heap.size w w' := by
  have hb1 : Below w.heap.size w (w.alloc (.cells #[.pointer none, .slice none 0 0] 151)) := (Below.refl _ _).alloc (Nat.le_refl _) _
  have HA := Lib.hid (all_any K F b _ (h.keep (w' := w.alloc (.cells #[.pointer none, .slice none 0 0] 151)) fun k hk => hb1.block k (by
    rcases hk with rfl | hk
    · obtain ⟨_, _, _, _, hK, _⟩ := h; exact (Array.getElem?_eq_some_iff.1 hK).1
    · exact h.lt hk)) hok)
  have HB1 := Lib.hid hb1
  have HV := Lib.hid hV
  have HBD := Lib.hid (fun e (he : e ∈ allB b) => book_bounds hok he)
  have HT : Hid (textB b = ⟨(textL (allB b)).toArray⟩) := Lib.hid rfl
  have hlen : (allB b).length ≤ 240 := by
    rw [allB_len]
    unfold lenB
    have h0 := (hok 0 (by omega)).len
    have h1 := (hok 1 (by omega)).len
    have h2 := (hok 2 (by omega)).len
    have h3 := (hok 3 (by omega)).len
    omega
  clear h hok hV hb1
  generalize allB b = l at *
  rw [HT.out]
  clear HT
  go_enter Tryz.func62, Tryz.ntmps62
  go_wp2_with fail
  refine HA.out.mono ?_
  rintro e w1 ⟨v, rfl, hl1, hnew, hb1⟩
  have HB2 : Hid (Below w.heap.size w w1) := Lib.hid (HB1.out.trans (hb1.mono (by simp)))
  have HBL : Hid (Bld w.heap.size [] w1) := Lib.hid ((Bld.new w).below hb1)
  have hsz1 : w.heap.size + 1 ≤ w1.heap.size := by have := hb1.size; simpa using this
  clear hb1
  by_cases h0 : 0 < l.length
  · obtain ⟨g, cap, cur, rfl, hg, hcc⟩ := hl1.cellsK h0
    have hgb : g ≠ w.heap.size := by have := hnew g rfl; simp at this; omega
    have HG := Lib.hid hg
    have HC := Lib.hid (fun W hW => (hcc W hW).ents (by omega))
    obtain ⟨n, hn⟩ : ∃ n, n = l.length := ⟨_, rfl⟩
    have HN := Lib.hid hn
    rw [← hn] at hlen h0 ⊢
    clear hn hl1 hnew hg hcc
    go_wp2_with fail
    go_loopw [11] (fun i wr => ∃ k : Nat, k ≤ n ∧ i = .int .i64 k ∧ Hid (Wrote w.heap.size (textL (l.take k)) w1 wr)) (fun i _ => n - (intOf i).toNat)
    case atStart => exact ⟨0, Nat.zero_le _, rfl, Lib.hid ⟨HBL.out, Below.refl _ _, Lib.OthersKept.refl _ _ _⟩⟩
    case round =>
      obtain ⟨k, hk, rfl, hw⟩ := hrel
      obtain ⟨wo, hwo⟩ : ∃ wo, wo = wr := ⟨_, rfl⟩
      subst hwo
      by_cases hlt : k < n
      · have hgr := Lib_kept_cells hw.out.kept HG.out hgb (by decide)
        obtain ⟨bk, off, cap', hv, hcs⟩ := (HC.out wo hgr).cells (by rw [← HN.out]; exact h0)
        simp only [Value.slice.injEq, Option.some.injEq, Addr.mk.injEq] at hv
        obtain ⟨⟨rfl, rfl, _⟩, _, rfl⟩ := hv
        have hkl : k < l.length := by rw [← HN.out]; exact hlt
        have hcs := hcs k hkl
        have HBE := Lib.hid (HBD.out _ (getD_mem' (l := l) (i := k) hkl))
        have HTK := Lib.hid (textL_take hkl)
        have HTL : Hid ((textL (l.take k)).length ≤ 48000) := Lib.hid (by
          have := textL_len (l := l.take k) fun e he => lineT_small ⟨(HBD.out e (List.mem_of_mem_take he)).1, (HBD.out e (List.mem_of_mem_take he)).2.1, (HBD.out e (List.mem_of_mem_take he)).2.2.1⟩ (HBD.out e (List.mem_of_mem_take he)).2.2.2
          rw [List.length_take] at this
          omega)
        rw [show ((0, 0, 0, ⟨#[]⟩) : Ent) = noE from rfl] at hcs
        simp only [Nat.zero_add] at hcs
        generalize l.getD k noE = en at *
        obtain ⟨d0, d1, d2, d3⟩ := hcs
        have hwz : w.heap.size + 1 ≤ wo.heap.size := by have := hw.out.bld.lt; omega
        obtain ⟨w5, hw5⟩ : ∃ w5, w5 = (wo.alloc (.cells #[.int .i64 (ePost en), .int .i64 (eNum en), .int .i64 (eCnt en), .string (eLine en)] 43)).alloc (.cells #[.int .i64 (ePost en), .int .i64 (eNum en), .int .i64 (eCnt en)] 3) := ⟨_, rfl⟩
        have hb5 : Below wo.heap.size wo w5 := by rw [hw5]; exact ((Below.refl _ _).alloc (Nat.le_refl _) _).alloc (by simp) _
        have HW1 := Lib.hid (hw.out.more hb5)
        have HE5 : Hid (w5.heap[wo.heap.size]? = some (.cells #[.int .i64 (ePost en), .int .i64 (eNum en), .int .i64 (eCnt en), .string (eLine en)] 43 (0, 0))) := Lib.hid (by
          rw [hw5]; exact (Below.heap_alloc _ _ _ (by simp)).trans (World.alloc_heap_new wo _))
        have HS5 : Hid (w5.heap[wo.heap.size + 1]? = some (.cells #[.int .i64 (ePost en), .int .i64 (eNum en), .int .i64 (eCnt en)] 3 (0, 0))) := Lib.hid (by
          have := World.alloc_heap_new (wo.alloc (.cells #[.int .i64 (ePost en), .int .i64 (eNum en), .int .i64 (eCnt en), .string (eLine en)] 43)) (.cells #[.int .i64 (ePost en), .int .i64 (eNum en), .int .i64 (eCnt en)] 3)
          rw [World.size_alloc] at this
          rw [hw5]; exact this)
        have HW5 := Lib.hid hw5
        have HWR := Lib.hid (Wrote.refl HW1.out.bld)
        clear hw5 hb5 hgr
        go_wp2_with fail
        rw [← HW5.out]
        go_loopw [23] (fun i wr => ∃ j : Nat, j ≤ 3 ∧ i = .int .i64 j ∧ Hid (Wrote w.heap.size (textL (l.take k) ++ numsT en j) w5 wr)) (fun i _ => 3 - (intOf i).toNat)
        case atStart => exact ⟨0, by omega, rfl, Lib.hid (HWR.out.same (by simp [numsT]))⟩
        case round =>
          obtain ⟨j, hj, rfl, hwj⟩ := hrel
          by_cases hlj : j < 3
          · have HSJ := Lib.hid (Lib_kept_cells hwj.out.kept HS5.out (by omega) (by decide))
            have hcj : wr.cell? ⟨wo.heap.size + 1, j, none⟩ = some (.int .i64 ((numE en).getD j 0)) := by
              rcases (show j = 0 ∨ j = 1 ∨ j = 2 by omega) with rfl | rfl | rfl <;> exact heap_cell HSJ.out rfl
            have hnb := num_bounds ⟨HBE.out.1, HBE.out.2.1, HBE.out.2.2.1⟩ hlj
            have HNX := Lib.hid (numsT_next en hlj)
            have hnl := numsT_len ⟨HBE.out.1, HBE.out.2.1, HBE.out.2.2.1⟩ j (by omega)
            have hil := itoa_short hnb.1 hnb.2
            generalize (numE en).getD j 0 = x at *
            have HVJ := Lib.hid (HV.out.below (HB2.out.trans (HW1.out.below.trans hwj.out.below)))
            have HI := Lib.hid (itoa_any x (by omega) (by omega) wr HVJ.out)
            have j1 : (0 : Int) ≤ (j : Int) := by omega
            have j2 : (j : Int) < 3 := by omega
            have HWS := Lib.hid (fun w6 (h6 : Below wr.heap.size wr w6) => ws_any w.heap.size (textL (l.take k) ++ numsT en j) (itoaB x) w6 (hwj.out.more h6).bld (by
              have := HTL.out
              rw [List.length_append, ba_size, show (itoaB x).data.toList = Lib.itoa x from rfl]
              omega))
            have HWB : Hid (∀ w7, Bld w.heap.size (textL (l.take k) ++ numsT en j ++ (itoaB x).data.toList) w7 → Calls Tryz.prog 92 #[.pointer (some ⟨w.heap.size, 0, none⟩), .int .u8 32] w7 fun e w' => e = .returned .nilIface ∧ Wrote w.heap.size (textL (l.take k) ++ numsT en j ++ (itoaB x).data.toList ++ [32]) w7 w') := Lib.hid (fun w7 h7 => wb_any w.heap.size _ 32 w7 h7 (by
              have := HTL.out
              rw [List.length_append, List.length_append, show (itoaB x).data.toList = Lib.itoa x from rfl]
              omega))
            clear hnl hil
            go_wp2_with fail
            refine HI.out.mono ?_
            rintro e w6 ⟨rfl, h6⟩
            have H6 := Lib.hid h6
            clear h6
            go_wp2_with fail
            refine (HWS.out _ H6.out).mono ?_
            rintro e w7 ⟨rfl, hw7⟩
            have H7 := Lib.hid hw7
            clear hw7
            go_wp2_with fail
            refine (HWB.out _ H7.out.bld).mono ?_
            rintro e w8 ⟨rfl, hw8⟩
            have H8 := Lib.hid (((hwj.out.more H6.out).trans H7.out).trans hw8)
            clear hw8
            go_wp2
            go_roundw
            case rel => exact ⟨j + 1, by omega, by go_num, Lib.hid (H8.out.same (by rw [HNX.out]; simp [itoaB]))⟩
            case measure => simp [intOf]; omega
          · have e : j = 3 := by omega
            subst e
            have HEJ := Lib.hid (Lib_kept_cells hwj.out.kept HE5.out (by omega) (by decide))
            have q3 := heap_cell (j := 3) HEJ.out rfl
            have hnl := numsT_len ⟨HBE.out.1, HBE.out.2.1, HBE.out.2.2.1⟩ 3 (by omega)
            have hll := line_small HBE.out.2.2.2
            have HWS := Lib.hid (ws_any w.heap.size (textL (l.take k) ++ numsT en 3) (eLine en) wr hwj.out.bld (by
              have := HTL.out
              rw [List.length_append, ba_size]
              omega))
            have HWB : Hid (∀ w7, Bld w.heap.size (textL (l.take k) ++ numsT en 3 ++ (eLine en).data.toList) w7 → Calls Tryz.prog 92 #[.pointer (some ⟨w.heap.size, 0, none⟩), .int .u8 10] w7 fun e w' => e = .returned .nilIface ∧ Wrote w.heap.size (textL (l.take k) ++ numsT en 3 ++ (eLine en).data.toList ++ [10]) w7 w') := Lib.hid (fun w7 h7 => wb_any w.heap.size _ 10 w7 h7 (by
              have := HTL.out
              rw [List.length_append, List.length_append]
              omega))
            clear hnl hll
            go_wp2_with fail
            refine HWS.out.mono ?_
            rintro e w7 ⟨rfl, hw7⟩
            have H7 := Lib.hid hw7
            clear hw7
            go_wp2_with fail
            refine (HWB.out _ H7.out.bld).mono ?_
            rintro e w8 ⟨rfl, hw8⟩
            have H8 := Lib.hid ((HW1.out.trans hwj.out).trans (H7.out.trans hw8))
            clear hw8
            go_wp2
            go_roundw
            case rel => exact ⟨k + 1, by omega, by go_num, Lib.hid (H8.out.same (by rw [HTK.out, lineT_nums]; simp))⟩
            case measure => simp [intOf]; omega
      · have e : k = n := by omega
        subst e
        have HS := Lib.hid (bs_any w.heap.size _ _ hw.out.bld)
        have HTT : Hid (textL (l.take k) = textL l) := Lib.hid (by rw [HN.out, List.take_length])
        have HBF := Lib.hid (HB2.out.trans hw.out.below)
        rw [HTT.out] at HS
        go_wp2_with fail
        refine HS.out.mono ?_
        rintro e w5 ⟨rfl, h5⟩
        go_wp2
        go_ret
        exact ⟨rfl, HBF.out.trans h5⟩
  · have hz : l = [] := List.length_eq_zero_iff.1 (by omega)
    subst hz
    obtain ⟨a0, c0, rfl⟩ := own_shape hl1
    have HS := Lib.hid (bs_any w.heap.size _ _ HBL.out)
    clear hl1 hnew
    simp only [List.length_nil] at *
    go_wp2_with fail
    go_loopw [11] (fun i wr => i = .int .i64 0 ∧ wr = w1) (fun i _ => 0)
    case atStart => exact ⟨rfl, rfl⟩
    case round =>
      obtain ⟨rfl, rfl⟩ := hrel
      go_wp2_with fail
      refine HS.out.mono ?_
      rintro e w5 ⟨rfl, h5⟩
      go_wp2
      go_ret
      exact ⟨rfl, HB2.out.trans h5⟩
end Go.Proofs.YtdfkaijeppdhaaaGreatDoor

/- Contracts of a post's methods: Text, Same. -/
namespace Go.Proofs.YtdfkaijeppdhaaaGreatDoor
open Go.RowKit Go.Shelf

theorem ba_beq (a b : ByteArray) : (a.toList == b.toList) = decide (a = b) := by
  by_cases h : a = b
  · subst h; simp
  · rw [ba_lne h, decide_eq_false h]
def StrPost (s : ByteArray) (w : World) (e : Ending) (w' : World) : Prop := e = .returned (.string s) ∧ Below w.heap.size w w'
set_option maxHeartbeats 400000 in
theorem text_post (P n : Nat) (F : List Nat) (b : Book) (w : World) (h : PostAt w P F n b) (hok : BookOk b) (hV : Vars w) :
    Calls Tryz.prog 29 #[.pointer (some ⟨P, 0, none⟩)] w (StrPost (textB b) w) := by
  obtain ⟨K, vs, hP, hvs, hF⟩ := h.parts
  have HN := Lib.hid (none_any P K n _ w hP)
  have HT := Lib.hid (text_any K _ b w hvs.at hok hV)
  have p0 := heap_cell (j := 0) hP rfl
  clear h hP hvs hF hok hV
  go_enter Tryz.func29, Tryz.ntmps29
  go_wp2_with fail
  refine HN.out.mono ?_
  rintro e w' ⟨rfl, rfl⟩
  go_wp2_with fail
  refine HT.out.mono ?_
  rintro e w' ⟨rfl, hb⟩
  go_wp2
  go_ret
  exact ⟨rfl, hb⟩
set_option maxHeartbeats 400000 in
theorem text_none (v : Value) (w : World) (h : NoPost w v) : Calls Tryz.prog 29 #[v] w fun e w' => e = .returned (.string emp) ∧ w = w' := by
  have HN := Lib.hid (none_no v w h)
  clear h
  go_enter Tryz.func29, Tryz.ntmps29
  go_wp2_with fail
  refine HN.out.mono ?_
  rintro e w' ⟨rfl, rfl⟩
  go_wp2
  go_ret
  exact ⟨rfl, rfl⟩
def BoolPost (q : Bool) (w : World) (e : Ending) (w' : World) : Prop := e = .returned (.bool q) ∧ Below w.heap.size w w'
set_option maxHeartbeats 4000000 in
theorem same_post (P n : Nat) (F : List Nat) (b : Book) (P2 n2 : Nat) (F2 : List Nat) (b2 : Book) (w : World) (h : PostAt w P F n b) (h2 : PostAt w P2 F2 n2 b2) (hok : BookOk b) (hok2 : BookOk b2) (hV : Vars w) :
    Calls Tryz.prog 37 #[.pointer (some ⟨P, 0, none⟩), .pointer (some ⟨P2, 0, none⟩)] w (BoolPost (decide (textB b = textB b2)) w) := by
  obtain ⟨K, vs, hP, hvs, hF⟩ := h.parts
  obtain ⟨K2, vs2, hP2, hvs2, hF2⟩ := h2.parts
  have HN := Lib.hid (none_any P K n _ w hP)
  have HN2 := Lib.hid (none_any P2 K2 n2 _ w hP2)
  have HT := Lib.hid (fun W (hW : KB w W) => text_any K _ b W (hvs.below hW).at hok (hV.below hW))
  have HT2 := Lib.hid (fun W (hW : KB w W) => text_any K2 _ b2 W (hvs2.below hW).at hok2 (hV.below hW))
  have r0 : ∀ W, KB w W → W.cell? ⟨P, 0, none⟩ = some (.pointer (some ⟨K, 0, none⟩)) := fun W hW => keep_cell hW (heap_cell hP rfl)
  have r1 : ∀ W, KB w W → W.cell? ⟨P2, 0, none⟩ = some (.pointer (some ⟨K2, 0, none⟩)) := fun W hW => keep_cell hW (heap_cell hP2 rfl)
  obtain ⟨t1, ht1⟩ : ∃ t, t = textB b := ⟨_, rfl⟩
  obtain ⟨t2, ht2⟩ : ∃ t, t = textB b2 := ⟨_, rfl⟩
  rw [← ht1, ← ht2]
  rw [← ht1] at HT
  rw [← ht2] at HT2
  clear h h2 hP hP2 hvs hvs2 hF hF2 hok hok2 hV ht1 ht2
  go_enter Tryz.func37, Tryz.ntmps37
  go_wp2_with fail
  refine HN.out.mono ?_
  rintro e w' ⟨rfl, rfl⟩
  go_wp2_with fail
  refine HN2.out.mono ?_
  rintro e w' ⟨rfl, rfl⟩
  go_wp2
  go_region_held3 (fun W => KB w W) (first | exact KB.refl _ | exact KB.drew (KB.refl _) | assumption | exact KB.drew (by assumption) | fail) (first
  | (go_at_call_of 62 (Value.pointer (some (⟨K, 0, none⟩ : Addr))); refine (HT.out _ (by first | exact KB.refl _ | exact KB.drew (KB.refl _) | assumption | exact KB.drew (by assumption))).mono ?_; rintro e w2 ⟨rfl, hb2⟩; have hk2 := KB.call (w := w) (by first | exact KB.refl _ | exact KB.drew (KB.refl _) | assumption | exact KB.drew (by assumption)) hb2; clear hb2)
  | (go_at_call_of 62 (Value.pointer (some (⟨K2, 0, none⟩ : Addr))); refine (HT2.out _ (by first | exact KB.refl _ | exact KB.drew (KB.refl _) | assumption | exact KB.drew (by assumption))).mono ?_; rintro e w2 ⟨rfl, hb2⟩; have hk2 := KB.call (w := w) (by first | exact KB.refl _ | exact KB.drew (KB.refl _) | assumption | exact KB.drew (by assumption)) hb2; clear hb2)
  | fail)
  all_goals rw [ba_beq]
  all_goals go_wp2
  all_goals go_ret
  all_goals exact ⟨rfl, by assumption⟩
set_option maxHeartbeats 1000000 in
theorem same_none_post (v : Value) (P n : Nat) (F : List Nat) (b : Book) (w : World) (h : NoPost w v) (h2 : PostAt w P F n b) :
    Calls Tryz.prog 37 #[v, .pointer (some ⟨P, 0, none⟩)] w fun e w' => e = .returned (.bool false) ∧ w = w' := by
  obtain ⟨K, vs, hP, hvs, hF⟩ := h2.parts
  have HN := Lib.hid (none_no v w h)
  have HN2 := Lib.hid (none_any P K n _ w hP)
  clear h h2 hP hvs hF
  go_enter Tryz.func37, Tryz.ntmps37
  go_wp2_with fail
  refine HN.out.mono ?_
  rintro e w' ⟨rfl, rfl⟩
  go_wp2_with fail
  refine HN.out.mono ?_
  rintro e w' ⟨rfl, rfl⟩
  go_wp2_with fail
  refine HN2.out.mono ?_
  rintro e w' ⟨rfl, rfl⟩
  go_wp2
  go_ret
  exact ⟨rfl, rfl⟩
set_option maxHeartbeats 1000000 in
theorem same_post_none (v : Value) (P n : Nat) (F : List Nat) (b : Book) (w : World) (h : NoPost w v) (h2 : PostAt w P F n b) :
    Calls Tryz.prog 37 #[.pointer (some ⟨P, 0, none⟩), v] w fun e w' => e = .returned (.bool false) ∧ w = w' := by
  obtain ⟨K, vs, hP, hvs, hF⟩ := h2.parts
  have HN := Lib.hid (none_no v w h)
  have HN2 := Lib.hid (none_any P K n _ w hP)
  clear h h2 hP hvs hF
  go_enter Tryz.func37, Tryz.ntmps37
  go_wp2_with fail
  refine HN2.out.mono ?_
  rintro e w' ⟨rfl, rfl⟩
  go_wp2_with fail
  refine HN.out.mono ?_
  rintro e w' ⟨rfl, rfl⟩
  go_wp2_with fail
  refine HN2.out.mono ?_
  rintro e w' ⟨rfl, rfl⟩
  go_wp2
  go_ret
  exact ⟨rfl, rfl⟩
set_option maxHeartbeats 1000000 in
theorem same_none_none (v v2 : Value) (w : World) (h : NoPost w v) (h2 : NoPost w v2) :
    Calls Tryz.prog 37 #[v, v2] w fun e w' => e = .returned (.bool true) ∧ w = w' := by
  have HN := Lib.hid (none_no v w h)
  have HN2 := Lib.hid (none_no v2 w h2)
  clear h h2
  go_enter Tryz.func37, Tryz.ntmps37
  go_wp2_with fail
  refine HN.out.mono ?_
  rintro e w' ⟨rfl, rfl⟩
  go_wp2_with fail
  refine HN.out.mono ?_
  rintro e w' ⟨rfl, rfl⟩
  go_wp2_with fail
  refine HN2.out.mono ?_
  rintro e w' ⟨rfl, rfl⟩
  go_wp2
  go_ret
  exact ⟨rfl, rfl⟩
/-! ### The other methods of no post -/
set_option maxHeartbeats 400000 in
theorem do_none (v : Value) (line : ByteArray) (w : World) (h : NoPost w v) : Calls Tryz.prog 24 #[v, .string line] w fun e w' => e = .returned (.tuple #[.string emp, .int .i64 101]) ∧ w = w' := by
  have HN := Lib.hid (none_no v w h)
  clear h
  go_enter Tryz.func24, Tryz.ntmps24
  go_wp2_with fail
  refine HN.out.mono ?_
  rintro e w' ⟨rfl, rfl⟩
  go_wp2
  go_ret2
  exact ⟨rfl, rfl⟩
set_option maxHeartbeats 400000 in
theorem ask_none (v : Value) (line : ByteArray) (w : World) (h : NoPost w v) : Calls Tryz.prog 36 #[v, .string line] w fun e w' => e = .returned (.tuple #[.string emp, .int .i64 101]) ∧ w = w' := by
  have HN := Lib.hid (none_no v w h)
  clear h
  go_enter Tryz.func36, Tryz.ntmps36
  go_wp2_with fail
  refine HN.out.mono ?_
  rintro e w' ⟨rfl, rfl⟩
  go_wp2
  go_ret2
  exact ⟨rfl, rfl⟩
set_option maxHeartbeats 400000 in
theorem hear_none (v : Value) (t : ByteArray) (w : World) (h : NoPost w v) : Calls Tryz.prog 44 #[v, .string t] w fun e w' => e = .returned (.int .i64 101) ∧ w = w' := by
  have HN := Lib.hid (none_no v w h)
  clear h
  go_enter Tryz.func44, Tryz.ntmps44
  go_wp2_with fail
  refine HN.out.mono ?_
  rintro e w' ⟨rfl, rfl⟩
  go_wp2
  go_ret
  exact ⟨rfl, rfl⟩
set_option maxHeartbeats 400000 in
theorem copy_none (v : Value) (w : World) (h : NoPost w v) : Calls Tryz.prog 35 #[v] w fun e w' => e = .returned (.pointer none) ∧ w = w' := by
  have HN := Lib.hid (none_no v w h)
  clear h
  go_enter Tryz.func35, Tryz.ntmps35
  go_wp2_with fail
  refine HN.out.mono ?_
  rintro e w' ⟨rfl, rfl⟩
  go_wp2
  go_ret
  exact ⟨rfl, rfl⟩
end Go.Proofs.YtdfkaijeppdhaaaGreatDoor
