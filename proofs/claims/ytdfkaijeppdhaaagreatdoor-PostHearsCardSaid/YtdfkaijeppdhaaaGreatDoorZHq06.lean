/- Texts of this claim, laid together: Pm, Rf. -/
import Derived.Test.YtdfkaijeppdhaaaGreatDoorZHq02
import Derived.Test.YtdfkaijeppdhaaaGreatDoorZHq04
import Derived.Lib.AppendIntMem
import Derived.KernelRfl

/- Posts in memory, together; the variables of the library. -/
namespace Go.Proofs.YtdfkaijeppdhaaaGreatDoor
open Go.RowKit Go.Shelf
/-- The variables of the library that the program reads. -/
structure Vars (w : World) : Prop where
  ml : ∃ m, w.cell? ⟨0, 0, none⟩ = some (.int .i64 m)
  tab : Lib.TabIs Tryz.prog w "internal/strconv.uint64pow10" .u64 Lib.pow10Tab
  es : ∃ ev, w.cell? ⟨2, 0, none⟩ = some ev ∧ (ev = .nilIface ∨ ∃ te pe, ev = .iface te pe)
  er : ∃ ev, w.cell? ⟨3, 0, none⟩ = some ev ∧ (ev = .nilIface ∨ ∃ te pe, ev = .iface te pe)
/-- The blocks of these variables. -/
def isVar (k : Nat) : Prop := k = 0 ∨ k = 1 ∨ k = 2 ∨ k = 3
theorem tabIs_keep {n : String} {g : Nat} {k : IntKind} {zs : List Int} {w w' : World} (hg : Tryz.prog.globalNamed n = some g) (h : Lib.TabIs Tryz.prog w n k zs) (hk : w'.heap[g]? = w.heap[g]?) : Lib.TabIs Tryz.prog w' n k zs := by
  unfold Lib.TabIs World.var? at h ⊢
  rw [hg] at h ⊢
  simp only [Option.bind_some] at h ⊢
  rw [hk]
  exact h
theorem tabIs_lt {n : String} {g : Nat} {k : IntKind} {zs : List Int} {w : World} (hg : Tryz.prog.globalNamed n = some g) (h : Lib.TabIs Tryz.prog w n k zs) : g < w.heap.size := by
  unfold Lib.TabIs World.var? at h
  rw [hg] at h
  simp only [Option.bind_some] at h
  rcases Nat.lt_or_ge g w.heap.size with h' | h'
  · exact h'
  · rw [Array.getElem?_eq_none h'] at h; cases h
theorem Vars.lt {w : World} (h : Vars w) {k : Nat} (hk : isVar k) : k < w.heap.size := by
  obtain ⟨_, h0⟩ := h.ml
  obtain ⟨_, h1, _⟩ := h.es
  obtain ⟨_, h2, _⟩ := h.er
  rcases hk with rfl | rfl | rfl | rfl
  · exact World.block_lt_of_cell? _ _ h0
  · exact tabIs_lt (g := 1) (by kernel_rfl) h.tab
  · exact World.block_lt_of_cell? _ _ h1
  · exact World.block_lt_of_cell? _ _ h2
theorem Vars.keep {w w' : World} (h : Vars w) (hk : ∀ k, isVar k → w'.heap[k]? = w.heap[k]?) : Vars w' := by
  obtain ⟨m, h0⟩ := h.ml
  obtain ⟨e1, h1, k1⟩ := h.es
  obtain ⟨e2, h2, k2⟩ := h.er
  exact ⟨⟨m, (World.cell?_of_block (hk _ (.inl rfl))).trans h0⟩, tabIs_keep (g := 1) (by kernel_rfl) h.tab (hk _ (.inr (.inl rfl))),
    ⟨e1, (World.cell?_of_block (hk _ (.inr (.inr (.inl rfl))))).trans h1, k1⟩, ⟨e2, (World.cell?_of_block (hk _ (.inr (.inr (.inr rfl))))).trans h2, k2⟩⟩
theorem Vars.below {w w' : World} (h : Vars w) (hb : Below w.heap.size w w') : Vars w' := h.keep fun k hk => hb.block k (h.lt hk)

/-- A post: its block, the blocks it stands on, its number, its book. -/
structure Pst where
  P : Nat
  F : List Nat
  n : Nat
  b : Book
/-- Posts together, each on blocks of its own, none on a variable of the library. -/
structure Posts (w : World) (m : Nat) (ps : Nat → Pst) : Prop where
  vars : Vars w
  post : ∀ i, i < m → PostAt w (ps i).P (ps i).F (ps i).n (ps i).b
  apart : ∀ i j, i < m → j < m → i ≠ j → ∀ k ∈ (ps i).F, k ∉ (ps j).F
  free : ∀ i, i < m → ∀ k ∈ (ps i).F, ¬ isVar k
def setS (ps : Nat → Pst) (j : Nat) (p : Pst) : Nat → Pst := fun k => if k = j then p else ps k
theorem setS_same (ps : Nat → Pst) (j : Nat) (p : Pst) : setS ps j p j = p := by simp [setS]
theorem setS_other (ps : Nat → Pst) {j k : Nat} (p : Pst) (h : k ≠ j) : setS ps j p k = ps k := by simp [setS, h]
/-- Blocks of F are new, or of G. -/
def NewOr (w : World) (G F : List Nat) : Prop := ∀ k ∈ F, k ∈ G ∨ w.heap.size ≤ k
theorem Posts.nil {w : World} (hv : Vars w) (ps : Nat → Pst) : Posts w 0 ps := ⟨hv, fun i h => by omega, fun i j h => by omega, fun i h => by omega⟩
theorem Posts.lt {w : World} {m : Nat} {ps : Nat → Pst} (h : Posts w m ps) {i : Nat} (hi : i < m) {k : Nat} (hk : k ∈ (ps i).F) : k < w.heap.size := (h.post i hi).lt hk
theorem Posts.keep {w w' : World} {m : Nat} {ps : Nat → Pst} (h : Posts w m ps) (hv : ∀ k, isVar k → w'.heap[k]? = w.heap[k]?) (hk : ∀ i, i < m → ∀ k ∈ (ps i).F, w'.heap[k]? = w.heap[k]?) : Posts w' m ps :=
  ⟨h.vars.keep hv, fun i hi => (h.post i hi).keep (hk i hi), h.apart, h.free⟩
theorem Posts.below {w w' : World} {m : Nat} {ps : Nat → Pst} (h : Posts w m ps) (hb : Below w.heap.size w w') : Posts w' m ps :=
  h.keep (fun k hk => hb.block k (h.vars.lt hk)) fun _ hi k hk => hb.block k (h.lt hi hk)
/-- One of them has turned. -/
theorem Posts.turn {w w' : World} {m : Nat} {ps : Nat → Pst} (h : Posts w m ps) {i : Nat} (hi : i < m) {p : Pst} (hp : PostAt w' p.P p.F p.n p.b) (hF : NewOr w (ps i).F p.F) (ho : Off (ps i).F w w') : Posts w' m (setS ps i p) := by
  refine ⟨h.vars.keep fun k hk => ho.block k (h.vars.lt hk) fun hm => h.free i hi k hm hk, fun j hj => ?_, fun a c ha hc hac k hk => ?_, fun j hj k hk => ?_⟩
  · by_cases e : j = i
    · subst e; rw [setS_same]; exact hp
    · rw [setS_other _ _ e]
      exact (h.post j hj).off ho (h.apart j i hj hi e)
  · by_cases ea : a = i
    · subst ea
      rw [setS_same] at hk
      rw [setS_other _ _ (Ne.symm hac)]
      intro hk2
      rcases hF k hk with h1 | h1
      · exact h.apart a c ha hc hac k h1 hk2
      · have := h.lt hc hk2; omega
    · rw [setS_other _ _ ea] at hk
      by_cases ec : c = i
      · subst ec
        rw [setS_same]
        intro hk2
        rcases hF k hk2 with h1 | h1
        · exact h.apart a c ha hc hac k hk h1
        · have := h.lt ha hk; omega
      · rw [setS_other _ _ ec]
        exact h.apart a c ha hc hac k hk
  · by_cases e : j = i
    · subst e
      rw [setS_same] at hk
      rcases hF k hk with h1 | h1
      · exact h.free j hj k h1
      · intro hv; have := h.vars.lt hv; omega
    · rw [setS_other _ _ e] at hk
      exact h.free j hj k hk
/-- A new one. -/
theorem Posts.grow {w w' : World} {m : Nat} {ps : Nat → Pst} (h : Posts w m ps) {p : Pst} (hp : PostAt w' p.P p.F p.n p.b) (hF : NewOr w [] p.F) (hb : Below w.heap.size w w') : Posts w' (m + 1) (setS ps m p) := by
  have hnew : ∀ k ∈ p.F, w.heap.size ≤ k := fun k hk => (hF k hk).resolve_left (by simp)
  refine ⟨h.vars.below hb, fun j hj => ?_, fun a c ha hc hac k hk => ?_, fun j hj k hk => ?_⟩
  · by_cases e : j = m
    · subst e; rw [setS_same]; exact hp
    · rw [setS_other _ _ e]
      exact (h.post j (by omega)).below hb
  · by_cases ea : a = m
    · subst ea
      rw [setS_same] at hk
      rw [setS_other _ _ (Ne.symm hac)]
      intro hk2
      have := h.lt (by omega) hk2
      have := hnew k hk
      omega
    · rw [setS_other _ _ ea] at hk
      by_cases ec : c = m
      · subst ec
        rw [setS_same]
        intro hk2
        have := h.lt (by omega) hk
        have := hnew k hk2
        omega
      · rw [setS_other _ _ ec]
        exact h.apart a c (by omega) (by omega) hac k hk
  · by_cases e : j = m
    · subst e
      rw [setS_same] at hk
      intro hv
      have := h.vars.lt hv
      have := hnew k hk
      omega
    · rw [setS_other _ _ e] at hk
      exact h.free j (by omega) k hk
/-- Any choice among them. -/
theorem Posts.pick {w : World} {m r : Nat} {ps : Nat → Pst} (h : Posts w m ps) (f : Nat → Nat) (hf : ∀ i, i < r → f i < m) (hi : ∀ i j, i < r → j < r → i ≠ j → f i ≠ f j) : Posts w r fun i => ps (f i) :=
  ⟨h.vars, fun i hr => h.post _ (hf i hr), fun i j hr hs hij k hk => h.apart _ _ (hf i hr) (hf j hs) (hi i j hr hs hij) k hk, fun i hr => h.free _ (hf i hr)⟩
end Go.Proofs.YtdfkaijeppdhaaaGreatDoor

/- Texts of this claim, laid together: Rt, Rf. -/

/- Plain: the book of a text, and back (Post). -/
namespace Go.Proofs.YtdfkaijeppdhaaaGreatDoor
open Go
def atoiV (s : ByteArray) : Option Int := match Lib.atoiAll s.data.toList with
  | .ok v => some v
  | _ => none
/-- The lines of a text, each without its line feed. -/
def linesC : List UInt8 → List (List UInt8)
  | [] => []
  | b :: r => if b == 10 then [] :: linesC r else match linesC r with
    | [] => [[b]]
    | x :: xs => (b :: x) :: xs
/-- The entry of a line. -/
def lineE (l : ByteArray) : Option Ent := match splitS 32 3 l with
  | [a, b, c, d] => match atoiV a, atoiV b, atoiV c with
    | some p, some n, some k => some (p, n, k, d)
    | _, _, _ => none
  | _ => none
/-- May an entry follow? -/
def follows (b : Book) (e : Ent) : Bool := betw 0 (ePost e) 3 && betw 1 (eCnt e) 1000000 && isLineB (eLine e) &&
  decide (eNum e = ((b (ePost e).toNat).length : Int) + 1) && decide ((b (ePost e).toNat).length ≠ 60) && (decide ((b (ePost e).toNat).length = 0) || decide (lastC (b (ePost e).toNat) < eCnt e))
def addB (b : Book) (e : Ent) : Option Book := if follows b e then some (addAt b (ePost e).toNat e) else none
def addAll : Book → List Ent → Option Book
  | b, [] => some b
  | b, e :: l => match addB b e with
    | some c => addAll c l
    | none => none
def readL : Book → List (List UInt8) → Option Book
  | b, [] => some b
  | b, x :: l => match lineE (bsB x) with
    | none => none
    | some e => match addB b e with
      | some c => readL c l
      | none => none
/-- The book of a text; none: there is none. -/
def readB (s : ByteArray) : Option Book := match readL empB (linesC s.data.toList) with
  | some b => if textB b = s then some b else none
  | none => none

theorem follows_iff (b : Book) (e : Ent) : follows b e = true ↔ 0 ≤ ePost e ∧ ePost e ≤ 3 ∧ 1 ≤ eCnt e ∧ eCnt e ≤ 1000000 ∧ isLineB (eLine e) = true ∧ eNum e = ((b (ePost e).toNat).length : Int) + 1 ∧ (b (ePost e).toNat).length ≠ 60 ∧ ((b (ePost e).toNat).length = 0 ∨ lastC (b (ePost e).toNat) < eCnt e) := by
  unfold follows
  simp only [Bool.and_eq_true, Bool.or_eq_true, decide_eq_true_eq, betw_iff, and_assoc]
theorem addB_ok {b c : Book} {e : Ent} (hb : BookOk b) (h : addB b e = some c) : BookOk c := by
  unfold addB at h
  split at h
  · rename_i hf
    rw [follows_iff] at hf
    obtain ⟨h0, h1, h2, h3, h4, h5, h6, h7⟩ := hf
    simp only [Option.some.injEq] at h
    subst h
    have hn : (ePost e).toNat < 4 := by omega
    have hk := hb _ hn
    refine setB_ok hb (listOk_snoc hk (by have := hk.len; omega) (by omega) h5 h2 h3 (by rw [lineB_is]; exact h4) ?_)
    rcases h7 with h7 | h7
    · rw [List.length_eq_zero_iff.1 h7]
      show (0 : Int) < _
      omega
    · exact h7
  · cases h
theorem readL_ok : ∀ (l : List (List UInt8)) {b c : Book}, BookOk b → readL b l = some c → BookOk c
  | [], b, c, hb, h => by simp only [readL, Option.some.injEq] at h; subst h; exact hb
  | x :: l, b, c, hb, h => by
    unfold readL at h
    split at h
    · cases h
    · split at h
      · rename_i c1 h1; exact readL_ok l (addB_ok hb h1) h
      · cases h
theorem readB_some {s : ByteArray} {b : Book} (h : readB s = some b) : BookOk b ∧ textB b = s := by
  unfold readB at h
  split at h
  · rename_i b1 h1
    split at h
    · rename_i ht
      simp only [Option.some.injEq] at h
      subst h
      exact ⟨readL_ok _ empB_ok h1, ht⟩
    · cases h
  · cases h

theorem linesC_one : ∀ (x r : List UInt8), (10 : UInt8) ∉ x → linesC (x ++ 10 :: r) = x :: linesC r
  | [], r, _ => by simp [linesC]
  | b :: x, r, h => by
    have hb : (b == 10) = false := by
      rw [beq_eq_false_iff_ne]; rintro rfl; simp at h
    rw [List.cons_append, linesC, hb, linesC_one x r (fun hm => h (by simp [hm]))]
    simp
def lineW (e : Ent) : List UInt8 := Lib.itoa (ePost e) ++ 32 :: (Lib.itoa (eNum e) ++ 32 :: (Lib.itoa (eCnt e) ++ 32 :: (eLine e).data.toList))
theorem lineT_is (e : Ent) : lineT e = lineW e ++ [10] := by unfold lineT lineW; simp
theorem lineW_no {e : Ent} (h : lineB (eLine e) = true) : (10 : UInt8) ∉ lineW e := fun hm => by
  unfold lineW at hm
  have h1 := itoa_no10 (ePost e)
  have h2 := itoa_no10 (eNum e)
  have h3 := itoa_no10 (eCnt e)
  have h4 := line_no10 h
  simp only [List.mem_append, List.mem_cons] at hm
  simp_all
theorem linesC_text : ∀ (l : List Ent), (∀ e ∈ l, lineB (eLine e) = true) → linesC (textL l) = l.map lineW
  | [], _ => rfl
  | e :: l, h => by
    show linesC (lineT e ++ textL l) = _
    rw [lineT_is, List.append_assoc, List.singleton_append, linesC_one _ _ (lineW_no (h e (by simp))), linesC_text l (fun x hx => h x (by simp [hx])), List.map_cons]
theorem splitN_word (c : UInt8) (k : Nat) : ∀ (x r : List UInt8), c ∉ x → splitN c (k + 1) (x ++ c :: r) = x :: splitN c k r
  | [], r, _ => by simp [splitN]
  | b :: x, r, h => by
    have hb : (b == c) = false := by
      rw [beq_eq_false_iff_ne]; rintro rfl; simp at h
    rw [List.cons_append, splitN, hb, splitN_word c k x r (fun hm => h (by simp [hm]))]
    simp
theorem itoa_no32 (n : Int) : (32 : UInt8) ∉ Lib.itoa n := fun h => by have := itoa_byte n _ h; simp at this
theorem parse_dec : ∀ (l : List UInt8) (acc : Nat), (∀ x ∈ l, 48 ≤ x.toNat ∧ x.toNat ≤ 57) → acc * 10 ^ l.length + 10 ^ l.length ≤ 1000000000000000000 → Lib.parseUint10 acc l = .ok (l.foldl (fun a x => a * 10 + (x.toNat - 48)) acc)
  | [], _, _, _ => rfl
  | c :: r, acc, h, hs => by
    have hc := h c (by simp)
    have hp : 1 ≤ 10 ^ r.length := Nat.one_le_pow _ _ (by decide)
    have e1 : acc * 10 ^ (r.length + 1) = acc * 10 * 10 ^ r.length := by rw [Nat.pow_succ, Nat.mul_comm (10 ^ r.length) 10, ← Nat.mul_assoc]
    have e2 : 10 ^ (r.length + 1) = 10 * 10 ^ r.length := by rw [Nat.pow_succ, Nat.mul_comm]
    rw [List.length_cons, e1, e2] at hs
    have b1 : acc * 10 ≤ acc * 10 * 10 ^ r.length := Nat.le_mul_of_pos_right _ hp
    have e3 : (acc * 10 + (c.toNat - 48)) * 10 ^ r.length + 10 ^ r.length ≤ acc * 10 * 10 ^ r.length + 10 * 10 ^ r.length := by
      have : (c.toNat - 48 + 1) * 10 ^ r.length ≤ 10 * 10 ^ r.length := Nat.mul_le_mul_right _ (by omega)
      rw [Nat.add_mul, Nat.one_mul] at this
      rw [Nat.add_mul]; omega
    unfold Lib.parseUint10
    rw [if_pos hc, if_neg (by omega), if_neg (by omega), parse_dec r _ (fun x hx => h x (by simp [hx])) (by omega)]
    rfl
theorem fold_dec (u : Nat) : (Lib.decDigits u).foldl (fun a x => a * 10 + (x.toNat - 48)) 0 = u := by
  induction u using Nat.strongRecOn with
  | _ u ih =>
    rw [Lib.decDigits]
    split
    · simp only [List.foldl_cons, List.foldl_nil, UInt8.toNat_ofNat']
      omega
    · rw [List.foldl_append, ih (u / 10) (by omega)]
      simp only [List.foldl_cons, List.foldl_nil, UInt8.toNat_ofNat']
      omega
theorem atoi_nat (u : Nat) (h : u < 10000000000) : Lib.atoiAll (Lib.itoa (u : Int)) = .ok (u : Int) := by
  have hi : Lib.itoa (u : Int) = Lib.decDigits u := by unfold Lib.itoa; rw [if_neg (by omega), Int.toNat_natCast]
  have hl : (Lib.decDigits u).length ≤ 10 := by rw [Lib.decDigits_length]; exact nDigits_le 9 u (by omega)
  have hb := decDigits_byte u
  have hf := fold_dec u
  have hm : Lib.parseMag (Lib.decDigits u) = .ok u := by
    unfold Lib.parseMag
    rw [if_neg (decDigits_ne u), parse_dec _ 0 hb (by
      have : 10 ^ (Lib.decDigits u).length ≤ 10 ^ 10 := Nat.pow_le_pow_right (by decide) hl
      rw [Nat.zero_mul, Nat.zero_add]
      exact Nat.le_trans this (by decide)), hf]
  rw [hi]
  cases hd : Lib.decDigits u with
  | nil => exact absurd hd (decDigits_ne u)
  | cons c r =>
    have hc := hb c (by rw [hd]; simp)
    rw [hd] at hm
    have n1 : ¬ c.toNat = 43 := by omega
    have n2 : ¬ c.toNat = 45 := by omega
    unfold Lib.atoiAll
    simp only [n1, n2, or_self, if_false, not_false_eq_true, true_and, false_and]
    rw [hm]
    simp only
    rw [if_neg (by omega)]
theorem atoi_small {n : Int} (h0 : 0 ≤ n) (h1 : n ≤ 1000000000) : atoiV (itoaB n) = some n := by
  obtain ⟨u, rfl⟩ := Int.eq_ofNat_of_zero_le h0
  unfold atoiV
  rw [show (itoaB (u : Int)).data.toList = Lib.itoa (u : Int) from rfl, atoi_nat u (by omega)]
theorem lineE_of {e : Ent} (h1 : 0 ≤ ePost e ∧ ePost e ≤ 1000000) (h2 : 0 ≤ eNum e ∧ eNum e ≤ 1000000) (h3 : 0 ≤ eCnt e ∧ eCnt e ≤ 1000000) : lineE (bsB (lineW e)) = some e := by
  unfold lineE splitS
  rw [bsB_list]
  unfold lineW
  rw [splitN_word _ _ _ _ (itoa_no32 _), splitN_word _ _ _ _ (itoa_no32 _), splitN_word _ _ _ _ (itoa_no32 _), splitN_zero]
  simp only [List.map_cons, List.map_nil]
  have a1 : atoiV (bsB (Lib.itoa (ePost e))) = some (ePost e) := atoi_small h1.1 (by omega)
  have a2 : atoiV (bsB (Lib.itoa (eNum e))) = some (eNum e) := atoi_small h2.1 (by omega)
  have a3 : atoiV (bsB (Lib.itoa (eCnt e))) = some (eCnt e) := atoi_small h3.1 (by omega)
  rw [a1, a2, a3, bsB_of]
  rfl
theorem readL_map : ∀ (l : List Ent) (b : Book), (∀ e ∈ l, lineE (bsB (lineW e)) = some e) → readL b (l.map lineW) = addAll b l
  | [], _, _ => rfl
  | e :: l, b, h => by
    rw [List.map_cons, readL, h e (by simp)]
    simp only
    unfold addAll
    cases addB b e with
    | none => rfl
    | some c => exact readL_map l c (fun x hx => h x (by simp [hx]))

/-- The entries of one post. -/
def ofP (l : List Ent) (i : Nat) : List Ent := l.filter fun e => decide (ePost e = (i : Int))
theorem ofP_all {b : Book} (hb : BookOk b) {i : Nat} (hi : i < 4) : ofP (allB b) i = b i := by
  have hm : ∀ j, j < 4 → ∀ e ∈ b j, ePost e = (j : Int) := fun j hj e he => ((hb j hj).mem he).1
  have hasc : ∀ j, j < 4 → Asc (b j) := fun j hj => (hb j hj).asc.imp fun h => .inl h
  refine asc_unique (List.Pairwise.sublist List.filter_sublist (sinceB_asc hb _)) (hasc i hi) ?_
  have hp := (allB_perm b).filter (fun e => decide (ePost e = (i : Int)))
  refine hp.trans ?_
  have hs : ∀ j, j < 4 → (b j).filter (fun e => decide (ePost e = (i : Int))) = if j = i then b j else [] := fun j hj => by
    split
    · rename_i h; subst h
      exact List.filter_eq_self.2 fun e he => by rw [hm j hj e he]; simp
    · rename_i h
      exact List.filter_eq_nil_iff.2 fun e he => by rw [hm j hj e he]; simp; omega
  rw [List.filter_append, List.filter_append, List.filter_append, hs 0 (by omega), hs 1 (by omega), hs 2 (by omega), hs 3 (by omega)]
  rcases (show i = 0 ∨ i = 1 ∨ i = 2 ∨ i = 3 by omega) with rfl | rfl | rfl | rfl <;> simp
theorem addAll_ok {b : Book} (hb : BookOk b) : ∀ (l2 l1 : List Ent) (c : Book), l1 ++ l2 = allB b → (∀ i, i < 4 → c i = ofP l1 i) → ∃ d, addAll c l2 = some d ∧ BookEq d b
  | [], l1, c, h, hc => ⟨c, rfl, fun i hi => by
      rw [List.append_nil] at h
      rw [hc i hi, h, ofP_all hb hi]⟩
  | e :: l2, l1, c, h, hc => by
    obtain ⟨i, hi, he⟩ := allB_mem (b := b) (e := e) (by rw [← h]; simp)
    obtain ⟨q1, q2, q3, q4⟩ := (hb i hi).mem he
    have ht : (ePost e).toNat = i := by omega
    have hpre : ofP l1 i ++ [e] <+: b i := by
      rw [← ofP_all hb hi, ← h]
      unfold ofP
      rw [List.filter_append, List.filter_cons_of_pos (by simpa using q1)]
      exact ⟨_, by rw [List.append_assoc, List.singleton_append]⟩
    have hk : ListOk i (ofP l1 i ++ [e]) := (hb i hi).front hpre
    have hown := hk.own (ofP l1 i).length (by simp)
    simp only [List.getElem_append_right (Nat.le_refl _), Nat.sub_self, List.getElem_cons_zero] at hown
    have hlen := hk.len
    rw [List.length_append, List.length_singleton] at hlen
    have hf : follows c e = true := by
      rw [follows_iff, ht, hc i hi]
      refine ⟨by omega, by omega, q2, q3, by rw [← lineB_is]; exact q4, by have := hown.2.1; omega, by omega, ?_⟩
      by_cases h0 : (ofP l1 i).length = 0
      · exact .inl h0
      · refine .inr ?_
        cases hl : (ofP l1 i).getLast? with
        | none => exact absurd (by rw [List.getLast?_eq_none_iff.1 hl]; rfl) h0
        | some x =>
          unfold lastC
          rw [hl]
          exact (List.pairwise_append.1 hk.asc).2.2 x (List.mem_of_getLast? hl) e (by simp)
    unfold addAll addB
    rw [if_pos hf, ht]
    refine addAll_ok hb l2 (l1 ++ [e]) _ (by rw [List.append_assoc, List.singleton_append]; exact h) fun j hj => ?_
    unfold addAt ofP
    rw [List.filter_append]
    by_cases hji : j = i
    · subst hji
      rw [setB_same, hc j hj, List.filter_cons_of_pos (by simpa using q1)]; rfl
    · rw [setB_other _ _ hji, hc j hj, List.filter_cons_of_neg (by rw [q1]; simp; omega)]
      simp [ofP]
theorem book_bounds {b : Book} (hb : BookOk b) {e : Ent} (h : e ∈ allB b) : (0 ≤ ePost e ∧ ePost e ≤ 3) ∧ (1 ≤ eNum e ∧ eNum e ≤ 60) ∧ (1 ≤ eCnt e ∧ eCnt e ≤ 1000000) ∧ lineB (eLine e) = true := by
  obtain ⟨i, hi, hm⟩ := allB_mem h
  obtain ⟨j, hj, rfl⟩ := List.getElem_of_mem hm
  obtain ⟨h1, h2, h3, h4, h5⟩ := (hb i hi).own j hj
  have := (hb i hi).len
  exact ⟨by omega, by omega, ⟨h3, h4⟩, h5⟩
/-- The book of the text of a book. -/
theorem read_text {b : Book} (hb : BookOk b) : ∃ d, readB (textB b) = some d ∧ BookEq d b := by
  obtain ⟨d, h1, h2⟩ := addAll_ok hb (allB b) [] empB rfl (fun i hi => rfl)
  refine ⟨d, ?_, h2⟩
  unfold readB
  rw [show (textB b).data.toList = textL (allB b) from rfl, linesC_text _ (fun e he => (book_bounds hb he).2.2.2), readL_map _ _ (fun e he => ?_), h1]
  · simp only
    rw [h2.text, if_pos rfl]
  · obtain ⟨k1, k2, k3, _⟩ := book_bounds hb he
    exact lineE_of (by omega) (by omega) (by omega)
end Go.Proofs.YtdfkaijeppdhaaaGreatDoor
/- Plain: the reference's words, numbers and deeds, which are those of the program (Post). -/
namespace Go.Proofs.YtdfkaijeppdhaaaGreatDoor
open Go
theorem about_no {w : ByteArray} {rest : List ByteArray} {c : Cmd} (h : aboutB w rest = some c) : c.deed = false := by
  unfold aboutB at h
  split at h
  · cases h
  · split at h
    · cases h
    · split at h
      · cases h; rfl
      · cases h
theorem allS_one {rs : List ByteArray} {n : Int} (h : allS numV rs = some [n]) : ∃ r, rs = [r] ∧ numV r = some n := by
  have hl := allS_len _ _ _ h
  match rs, hl with
  | [r], _ =>
    refine ⟨r, rfl, ?_⟩
    unfold allS at h
    cases h4 : numV r with
    | none => simp [h4] at h
    | some v => simpa [h4, allS] using h
end Go.Proofs.YtdfkaijeppdhaaaGreatDoor
