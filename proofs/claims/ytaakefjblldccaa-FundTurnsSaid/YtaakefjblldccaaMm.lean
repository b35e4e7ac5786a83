/- Contract: the mean over all orders (the reference). -/
import Derived.Test.YtaakefjblldccaaMt
namespace Go.Proofs.Ytaakefjblldccaa
open Go.RowKit

theorem ways_fct : ∀ n, ways n = fct n
  | 0 => rfl
  | n + 1 => by rw [ways, fct, ways_fct n, Nat.mul_comm]
def waysI (n : Nat) : List Int := (List.range n).map fun k => (fct k : Int)
theorem waysI_len (n : Nat) : (waysI n).length = n := by simp [waysI]
theorem waysI_at {n k : Nat} (h : k < n) : (waysI n).getD k 0 = (fct k : Int) := by simp [waysI, List.getD_eq_getElem?_getD, h]
theorem waysI_snoc (k : Nat) : waysI (k + 1) = waysI k ++ [(fct k : Int)] := by simp [waysI, List.range_succ]

theorem ownI_of {B : Nat} {w : World} {g cap k : Nat} {l : List Int} (h : w.ownsRow B 3 1 (.slice (some ⟨g, 0, none⟩) k cap) k (l.map (Value.int .i64))) (hl : l.length = k) : OwnI B w g cap l := by
  refine ⟨by rw [hl]; exact h, ?_⟩
  rcases h.2 with ⟨h1, _⟩ | ⟨g', cap', cur, h1, hb, _⟩
  · cases h1
  · injection h1 with h2
    injection h2 with h3
    injection h3 with h4
    omega
theorem ownI_one (w : World) (x : Int) : OwnI w.heap.size (w.alloc (.cells #[.int .i64 x] 3)) w.heap.size 1 [x] :=
  ⟨⟨rfl, .inr ⟨w.heap.size, 1, _, rfl, Nat.le_refl _, World.alloc_heap_new _ _, Nat.le_refl _, by decide, rfl, rfl⟩⟩, Nat.le_refl _⟩

theorem wrap_pow {n : Nat} (h : n ≤ 7) : wrap64 (2 ^ n) = ((2 ^ n : Nat) : Int) := by
  have : n = 0 ∨ n = 1 ∨ n = 2 ∨ n = 3 ∨ n = 4 ∨ n = 5 ∨ n = 6 ∨ n = 7 := by omega
  rcases this with rfl | rfl | rfl | rfl | rfl | rfl | rfl | rfl <;> first | rfl | kernel_rfl | simp [wrap64]
theorem csumV_zero (c : List Int) (s : Nat) : csumV c (bits 0 s) = 0 := by cases c <;> rfl
theorem bits_len (k s : Nat) : (bits k s).length = k := by simp [bits]
theorem bits_snoc (k s : Nat) : bits (k + 1) s = bits k s ++ [s / 2 ^ k % 2 == 1] := by simp [bits, List.range_succ]
theorem sizeOf_snoc : ∀ (p : List Bool) (b : Bool), sizeOf (p ++ [b]) = sizeOf p + (if b = true then 1 else 0)
  | [], b => by cases b <;> rfl
  | true :: p, b => by
    show sizeOf (p ++ [b]) + 1 = sizeOf p + 1 + _
    rw [sizeOf_snoc p b]
    omega
  | false :: p, b => sizeOf_snoc p b
theorem sizeOf_le : ∀ p : List Bool, sizeOf p ≤ p.length
  | [] => Nat.le_refl _
  | true :: p => Nat.succ_le_succ (sizeOf_le p)
  | false :: p => Nat.le_succ_of_le (sizeOf_le p)
theorem sizeOf_lt : ∀ (p : List Bool) (i : Nat), i < p.length → p.getD i true = false → sizeOf p < p.length
  | [], _, h, _ => by simp at h
  | x :: p, 0, _, h => by
    have h0 := sizeOf_le p
    have hx : x = false := by simpa using h
    subst hx
    exact Nat.lt_succ_of_le h0
  | true :: p, i + 1, hi, h => Nat.succ_lt_succ (sizeOf_lt p i (by simpa using hi) (by simpa using h))
  | false :: p, i + 1, hi, h => Nat.lt_succ_of_lt (sizeOf_lt p i (by simpa using hi) (by simpa using h))
theorem csumV_snoc : ∀ (c : List Int) (p : List Bool) (b : Bool), p.length < c.length → csumV c (p ++ [b]) = csumV c p + (if b = true then c.getD p.length 0 else 0)
  | [], p, b, h => by simp at h
  | x :: c, [], b, _ => by cases c <;> simp [csumV]
  | x :: c, y :: p, b, h => by
    have ih := csumV_snoc c p b (by simpa using h)
    simp only [List.cons_append, csumV, ih, List.length_cons, List.getD_cons_succ]
    omega
theorem csumV_bd : ∀ {c : List Int}, (∀ x ∈ c, 0 ≤ x ∧ x ≤ 1000) → ∀ p : List Bool, 0 ≤ csumV c p ∧ csumV c p ≤ 1000 * p.length
  | [], _, p => by cases p <;> simp [csumV] <;> omega
  | x :: c, h, [] => by simp [csumV]
  | x :: c, h, y :: p => by
    have ih := csumV_bd (c := c) (fun x hx => h x (by simp [hx])) p
    have hx := h x (by simp)
    simp only [csumV, List.length_cons]
    split <;> omega
theorem bits_and1 (m : Nat) (h : m < 129) : Go.bits BinOp.and IntKind.i64 (m : Int) 1 = ((m % 2 : Nat) : Int) := by
  have : ∀ m : Nat, m < 129 → Go.bits BinOp.and IntKind.i64 (m : Int) 1 = ((m % 2 : Nat) : Int) := by decide
  exact this m h
theorem bit_val {s : Nat} (k : Nat) (h : s < 129) : Go.bits BinOp.and IntKind.i64 ((s : Int) / 2 ^ k) 1 = ((s / 2 ^ k % 2 : Nat) : Int) := by
  rw [show ((s : Int) / 2 ^ k) = ((s / 2 ^ k : Nat) : Int) by simp]
  exact bits_and1 _ (Nat.lt_of_le_of_lt (Nat.div_le_self _ _) h)
theorem bit_is {s : Nat} (k : Nat) (h : s < 129) (hb : s / 2 ^ k % 2 = 1) : (Go.bits BinOp.and IntKind.i64 ((s : Int) / 2 ^ k) 1 == 1) = true := by
  rw [bit_val k h, hb]; rfl
theorem bit_not {s : Nat} (k : Nat) (h : s < 129) (hb : ¬ s / 2 ^ k % 2 = 1) : (Go.bits BinOp.and IntKind.i64 ((s : Int) / 2 ^ k) 1 == 1) = false := by
  rw [bit_val k h, show s / 2 ^ k % 2 = 0 by omega]; rfl
theorem bit_is0 {s : Nat} (k : Nat) (h : s < 129) (hb : ¬ s / 2 ^ k % 2 = 1) : (Go.bits BinOp.and IntKind.i64 ((s : Int) / 2 ^ k) 1 == 0) = true := by
  rw [bit_val k h, show s / 2 ^ k % 2 = 0 by omega]; rfl
theorem bit_not0 {s : Nat} (k : Nat) (h : s < 129) (hb : s / 2 ^ k % 2 = 1) : (Go.bits BinOp.and IntKind.i64 ((s : Int) / 2 ^ k) 1 == 0) = false := by
  rw [bit_val k h, hb]; rfl
/-- What a set of those who come ahead counts for, and the sum over the first sets. -/
def tS (c : List Int) (e : Int) (i s : Nat) : Int := if s / 2 ^ i % 2 = 1 then 0 else (wt c.length (bits c.length s) : Int) * fV c i e (bits c.length s)
def sS (c : List Int) (e : Int) (i s : Nat) : Int := sumI ((List.range s).map (tS c e i))

theorem sS_snoc (c : List Int) (e : Int) (i s : Nat) : sS c e i (s + 1) = sS c e i s + tS c e i s := by
  unfold sS
  rw [List.range_succ, List.map_append, sumI_append]
  simp [sumI]
theorem tS_bd {c : List Int} {e : Int} {i : Nat} (h7 : c.length ≤ 7) (hc : ∀ x ∈ c, 0 ≤ x ∧ x ≤ 1000) (hi : i < c.length) (s : Nat) : 0 ≤ tS c e i s ∧ tS c e i s ≤ 25401600000 := by
  unfold tS
  split
  · omega
  · unfold wt fV
    have hz := sizeOf_le (bits c.length s)
    rw [bits_len] at hz
    have hci := hc _ (mem_getD hi)
    rw [ways_fct, ways_fct, Int.natCast_mul]
    have f1 := fct_le (n := sizeOf (bits c.length s)) (by omega)
    have f2 := fct_le (n := c.length - 1 - sizeOf (bits c.length s)) (by omega)
    generalize csumV c (bits c.length s) = bb at *
    generalize sizeOf (bits c.length s) = z at *
    have hm : 0 ≤ (fct z : Int) * (fct (c.length - 1 - z) : Int) ∧ (fct z : Int) * (fct (c.length - 1 - z) : Int) ≤ 5040 * 5040 := ⟨Int.mul_nonneg (by omega) (by omega), Int.mul_le_mul (by omega) (by omega) (by omega) (by omega)⟩
    have hmm : 0 ≤ min (c.getD i 0) (max (e - bb) 0) ∧ min (c.getD i 0) (max (e - bb) 0) ≤ 1000 := by omega
    have h3 := Int.mul_le_mul hm.2 hmm.2 hmm.1 (by omega)
    exact ⟨Int.mul_nonneg hm.1 hmm.1, by omega⟩
theorem sS_bd {c : List Int} {e : Int} {i : Nat} (h7 : c.length ≤ 7) (hc : ∀ x ∈ c, 0 ≤ x ∧ x ≤ 1000) (hi : i < c.length) (s : Nat) : 0 ≤ sS c e i s ∧ sS c e i s ≤ 25401600000 * s := by
  induction s with
  | zero => simp [sS, sumI]
  | succ s ih =>
    have h := tS_bd (e := e) h7 hc hi s
    rw [sS_snoc]
    omega

set_option maxRecDepth 100000 in
set_option maxHeartbeats 20000000 in
theorem rMiddle_ok (v : Value) (c : List Int) (e : Int) (w : World) (hv : IntsAt w v c) (hask : askE c e = 0) (h7 : c.length ≤ 7) :
    Calls Try.prog 32 #[v, .int .i64 e] w (GivesM c e w) := by
  have V := Lib.hid hv
  have CK := Lib.hid (rasked_any v c e w hv)
  rw [hask] at CK
  obtain ⟨hc, he1, he2⟩ := askE_ok2 hask
  have HH := Lib.hid hc
  have ME := Lib.hid (show midE c e = 0 by unfold midE; rw [if_pos hask, if_neg (by omega)])
  have hlo := hc.lo
  obtain ⟨b, off, cap0, rfl, hcc⟩ := ints_cell hv (by omega)
  have HC := Lib.hid hcc
  have ht := hc.tot
  obtain ⟨i0, hi0, hz0, hz1, hz2⟩ := info_parts Try.infoRatio
  obtain ⟨j0, hj0, hy0, hy1, hy2⟩ := info_parts Try.infoInt
  have h7' : ¬ ((7 : Int) < c.length) := by omega
  obtain ⟨P, hP⟩ : ∃ P, P = 2 ^ c.length := ⟨_, rfl⟩
  have hw : wrap64 (2 ^ c.length) = (P : Int) := by rw [hP]; exact wrap_pow h7
  have hP8 : P ≤ 128 := by rw [hP]; exact Nat.pow_le_pow_right (n := 2) (by omega) h7
  have HP := Lib.hid hP
  clear hP
  clear hask hc hv hcc
  go_enter Try.func32, Try.ntmps32
  go_wp2_with fail
  refine CK.out.mono ?_
  rintro e' w' ⟨rfl, rfl⟩
  go_wp2
  have O0 := Lib.hid (ownI_one w 1)
  have ML := Lib.hid (show (midL c e).length = c.length by simp [midL])
  have MT := Lib.hid (show ∀ k, k < c.length → (midL c e).take (k + 1) = (midL c e).take k ++ [(rn (sumT c e k (orders c.length)) (fct c.length), rd (sumT c e k (orders c.length)) (fct c.length))] from fun k hk => by
    rw [List.take_succ_eq_append_getElem (by simp [midL]; exact hk)]
    simp [midL])
  have FL := Lib.hid (fun k (hk : k ≤ 7) => fct_le hk)
  go_loopw [7, 8] (fun wv iv wr => ∃ k g cap : Nat, 1 ≤ k ∧ k ≤ c.length + 1 ∧ wv = .slice (some ⟨g, 0, none⟩) k cap ∧ iv = .int .i64 k ∧ OwnI w.heap.size wr g cap (waysI k) ∧ Below w.heap.size w wr) (fun _ iv _ => c.length + 1 - (intOf iv).toNat)
  case atStart => exact ⟨1, w.heap.size, 1, Nat.le_refl _, by omega, rfl, rfl, O0.out, (Below.refl _ _).alloc (Nat.le_refl _) _⟩
  case round =>
    obtain ⟨k, g, cap, hk1, hk, rfl, rfl, hO, hbel⟩ := hrel
    by_cases hlt : k < c.length + 1
    · have hlt' : (k : Int) ≤ (c.length : Int) := by omega
      have r1 := hO.cell (k - 1) (by rw [waysI_len]; omega)
      rw [waysI_at (by omega)] at r1
      have hrow : wr.ownsRow w.heap.size 3 1 (.slice (some ⟨g, 0, none⟩) k cap) k ((waysI k).map (Value.int .i64)) := by
        have := hO.row
        rwa [waysI_len] at this
      have hf := FL.out (k - 1) (by omega)
      have hf1 := fct_pos (k - 1)
      have NX := Lib.hid (show waysI k ++ [(fct (k - 1) : Int) * k] = waysI (k + 1) by
        rw [waysI_snoc]
        obtain ⟨j, rfl⟩ : ∃ j, k = j + 1 := ⟨k - 1, by omega⟩
        simp only [Nat.add_sub_cancel, fct]
        rw [Int.natCast_mul, Int.mul_comm])
      have hm : 0 ≤ (fct (k - 1) : Int) * k ∧ (fct (k - 1) : Int) * k ≤ 5040 * 8 := ⟨Int.mul_nonneg (by omega) (by omega), Int.mul_le_mul (by omega) (by omega) (by omega) (by omega)⟩
      have hk0 : (0 : Int) ≤ (k : Int) - 1 := by omega
      have hk9 : (k : Int) - 1 < (k : Int) := by omega
      have hbs := hbel.size
      clear hO O0
      generalize fct (k - 1) = q at *
      go_wp2_with (at_builtin; refine wpList_append_own _ rfl _ _ 29 rfl w.heap.size 3 j0 (.int .i64 0) 1 8 Try.underlying29 hj0 hy0 hy1 hy2 rfl (by decide) _ _ _ rfl (hrow.alloc _) ⟨wr.heap.size, 0, none⟩ 1 1 [.int .i64 ((q : Int) * k)] rfl rfl (cell_one_new _ _ _) (by simp [Value.oneCell']) (by unfold maxLen; omega) (by omega) (by simp; omega) ?_)
      intro v' w3 hown' hgrow _
      obtain ⟨g', cap', rfl⟩ := ownsRow_succ hown'
      have O3 := Lib.hid (show OwnI w.heap.size w3 g' cap' (waysI (k + 1)) from ownI_of (by rw [← NX.out, List.map_append]; exact hown') (waysI_len _))
      have B3 := Lib.hid (below_append hbel hbs hrow hgrow)
      clear hown' hgrow hrow hbel r1
      go_wp2
      go_roundw
      case rel => exact ⟨k + 1, g', cap', by omega, by omega, rfl, by go_num, O3.out, B3.out⟩
      case measure => simp [intOf]; omega
    · have ek : k = c.length + 1 := by omega
      subst ek
      have HC1 := Lib.hid (fun j hj => keep_cell hbel (HC.out j hj))
      have HW1 := Lib.hid (fun j (hj : j ≤ c.length) => (hO.cell j (by rw [waysI_len]; omega)).trans (congrArg some (by rw [waysI_at (show j < c.length + 1 by omega)])))
      have B1 := Lib.hid hbel
      have hk9 : ¬ ((c.length + 1 : Nat) : Int) ≤ (c.length : Int) := by omega
      clear hO hbel O0 HC
      obtain ⟨W1, rfl⟩ : ∃ W1, W1 = wr := ⟨_, rfl⟩
      go_wp2
      go_loopw [9, 10] (fun ov iv wq => ∃ i : Nat, i ≤ c.length ∧ iv = .int .i64 i ∧ OwnR wq W1.heap.size ov ((midL c e).take i) ∧ Below W1.heap.size W1 wq) (fun _ iv _ => c.length - (intOf iv).toNat)
      case atStart => exact ⟨0, Nat.zero_le _, rfl, OwnR.nil _ _, Below.refl _ _⟩
      case round =>
        obtain ⟨i, hi, rfl, hown, hbi⟩ := hrel
        by_cases hil : i < c.length
        · have hil' : (i : Int) < (c.length : Int) := by omega
          obtain ⟨W2, rfl⟩ : ∃ W2, W2 = wr := ⟨_, rfl⟩
          go_wp2
          go_loopw [11, 12] (fun sv iv wq => ∃ s : Nat, s ≤ P ∧ iv = .int .i64 s ∧ sv = .int .i64 (sS c e i s) ∧ Below W2.heap.size W2 wq) (fun _ iv _ => P - (intOf iv).toNat)
          case atStart => exact ⟨0, Nat.zero_le _, rfl, rfl, Below.refl _ _⟩
          case round =>
            obtain ⟨s, hs, rfl, rfl, hbs⟩ := hrel
            by_cases hsl : s < P
            · have hsl' : (s : Int) < (P : Int) := by omega
              go_wp2
              obtain ⟨W3, rfl⟩ : ∃ W3, W3 = wr := ⟨_, rfl⟩
              go_loopw [13, 14, 15] (fun zv bv kv wq => ∃ k : Nat, k ≤ c.length ∧ kv = .int .i64 k ∧ zv = .int .i64 (sizeOf (bits k s)) ∧ bv = .int .i64 (csumV c (bits k s)) ∧ Below W3.heap.size W3 wq) (fun _ _ kv _ => c.length - (intOf kv).toNat)
              case atStart => exact ⟨0, Nat.zero_le _, rfl, rfl, by rw [csumV_zero], Below.refl _ _⟩
              case round =>
                obtain ⟨k, hk, rfl, rfl, rfl, hbk⟩ := hrel
                by_cases hkl : k < c.length
                · have hkl' : (k : Int) < (c.length : Int) := by omega
                  have hb3 := hbi.trans ((hbs.trans (hbk.mono hbs.size)).mono hbi.size)
                  have ck := keep_cell hb3 (HC1.out k hkl)
                  have hz := sizeOf_le (bits k s)
                  rw [bits_len] at hz
                  have hcs := csumV_bd (fun x hx => HH.out.holds x hx) (bits k s)
                  rw [bits_len] at hcs
                  have hck := HH.out.holds _ (mem_getD hkl)
                  have SN := Lib.hid (sizeOf_snoc (bits k s) (s / 2 ^ k % 2 == 1))
                  have CN := Lib.hid (csumV_snoc c (bits k s) (s / 2 ^ k % 2 == 1) (by rw [bits_len]; exact hkl))
                  rw [← bits_snoc] at SN CN
                  rw [bits_len] at CN
                  by_cases hbit : s / 2 ^ k % 2 = 1
                  · have hbv := bit_is k (by omega) hbit
                    rw [show (s / 2 ^ k % 2 == 1) = true from beq_iff_eq.2 hbit, if_pos rfl] at SN CN
                    have HBK := Lib.hid hbk
                    generalize sizeOf (bits k s) = z at *
                    generalize csumV c (bits k s) = bb at *
                    generalize c.getD k 0 = x at *
                    clear hbit hbk hbs hbi hb3 hown
                    go_upto_region 24 with fail
                    go_region
                    as_aux_lemma =>
                      go_wp2
                      go_roundw
                      case rel => exact ⟨k + 1, by omega, by go_num, by rw [SN.out]; go_num, by rw [CN.out], HBK.out.drew⟩
                      case measure => simp [intOf]; omega
                  · have hbv := bit_not k (s := s) (by omega) hbit
                    rw [show (s / 2 ^ k % 2 == 1) = false from beq_eq_false_iff_ne.2 hbit, if_neg (by decide)] at SN CN
                    have HBK := Lib.hid hbk
                    generalize sizeOf (bits k s) = z at *
                    generalize csumV c (bits k s) = bb at *
                    clear hbit hbk hbs hbi hb3 hown
                    go_wp2
                    go_roundw
                    case rel => exact ⟨k + 1, by omega, by go_num, by rw [SN.out]; rfl, by rw [CN.out, Int.add_zero], HBK.out⟩
                    case measure => simp [intOf]; omega
                · have ek : k = c.length := by omega
                  subst ek
                  have hb3 := hbi.trans ((hbs.trans (hbk.mono hbs.size)).mono hbi.size)
                  have ci := keep_cell hb3 (HC1.out i hil)
                  have hz := sizeOf_le (bits c.length s)
                  rw [bits_len] at hz
                  have hcs := csumV_bd (fun x hx => HH.out.holds x hx) (bits c.length s)
                  rw [bits_len] at hcs
                  have hci := HH.out.holds _ (mem_getD hil)
                  have hsb := sS_bd (c := c) (e := e) h7 (fun x hx => HH.out.holds x hx) hil s
                  have SS := Lib.hid (sS_snoc c e i s)
                  have HB := Lib.hid (hbs.trans (hbk.mono hbs.size))
                  by_cases hbit : s / 2 ^ i % 2 = 1
                  · have hb0 := bit_not0 i (by omega) hbit
                    have T0 := Lib.hid (show tS c e i s = 0 from if_pos hbit)
                    generalize sizeOf (bits c.length s) = z at *
                    generalize csumV c (bits c.length s) = bb at *
                    clear hbit hbk hbs hbi hb3 hown ci
                    go_wp2
                    go_roundw
                    case rel => exact ⟨s + 1, by omega, by go_num, by rw [SS.out, T0.out, Int.add_zero], HB.out⟩
                    case measure => simp [intOf]; omega
                  · have hb0 := bit_is0 i (s := s) (by omega) hbit
                    have hzl := sizeOf_lt (bits c.length s) i (by rw [bits_len]; exact hil) (by simp [bits, List.getD_eq_getElem?_getD, hil]; omega)
                    rw [bits_len] at hzl
                    have T0 := Lib.hid (show tS c e i s = (fct (sizeOf (bits c.length s)) : Int) * (fct (c.length - 1 - sizeOf (bits c.length s)) : Int) * min (c.getD i 0) (max (e - csumV c (bits c.length s)) 0) by
                      unfold tS
                      rw [if_neg hbit]
                      unfold wt fV
                      rw [ways_fct, ways_fct, Int.natCast_mul])
                    have cz := keep_cell hb3 (HW1.out (sizeOf (bits c.length s)) (by omega))
                    have cz2 := keep_cell hb3 (HW1.out (c.length - 1 - sizeOf (bits c.length s)) (by omega))
                    have f1 := FL.out (sizeOf (bits c.length s)) (by omega)
                    have f2 := FL.out (c.length - 1 - sizeOf (bits c.length s)) (by omega)
                    generalize csumV c (bits c.length s) = bb at *
                    generalize sizeOf (bits c.length s) = z at *
                    have hm : 0 ≤ (fct z : Int) * (fct (c.length - 1 - z) : Int) ∧ (fct z : Int) * (fct (c.length - 1 - z) : Int) ≤ 5040 * 5040 := ⟨Int.mul_nonneg (by omega) (by omega), Int.mul_le_mul (by omega) (by omega) (by omega) (by omega)⟩
                    have hzz : (z : Int) < (c.length : Int) := by omega
                    generalize fct z = q1 at *
                    generalize fct (c.length - 1 - z) = q2 at *
                    generalize c.getD i 0 = x at *
                    have hmm : 0 ≤ min x (max (e - bb) 0) ∧ min x (max (e - bb) 0) ≤ 1000 := by omega
                    have hm3 : 0 ≤ (q1 : Int) * q2 * min x (max (e - bb) 0) ∧ (q1 : Int) * q2 * min x (max (e - bb) 0) ≤ 5040 * 5040 * 1000 := ⟨Int.mul_nonneg hm.1 hmm.1, Int.mul_le_mul hm.2 hmm.2 hmm.1 (by omega)⟩
                    clear hbit hbk hbs hbi hb3 hown
                    go_upto_region 26 with fail
                    go_region
                    as_aux_lemma =>
                      go_wp2
                      go_roundw
                      case rel => exact ⟨s + 1, by omega, by go_num, by rw [SS.out, T0.out], HB.out.drew⟩
                      case measure => simp [intOf]; omega
            · have es : s = P := by omega
              have SE : sS c e i s = sumT c e i (orders c.length) := by
                rw [es, HP.out]
                exact (middle_sum (fun x hx => (HH.out.holds x hx).1) h7 hil he1).symm
              have hsb := sS_bd (c := c) (e := e) h7 (fun x hx => HH.out.holds x hx) hil s
              have T := Lib.hid (MT.out i hil)
              rw [← SE] at T
              have hb3 := hbi.trans (hbs.mono hbi.size)
              have cz := keep_cell hb3 (HW1.out c.length (Nat.le_refl _))
              have f1 := FL.out c.length h7
              have f0 := fct_pos c.length
              have hTk : ((midL c e).take i).length ≤ 7 := by simp; omega
              have RC := Lib.hid (rRatio_any (sS c e i s) (fct c.length) wr (by omega) (by omega) (by omega) (by omega))
              have hown3 := hown.below hbs
              have hsl' : ¬ (s : Int) < (P : Int) := by omega
              generalize fct c.length = q at *
              generalize sS c e i s = S at *
              unfold ratV at RC
              clear SE hown hbs hbi
              go_wp2_with fail
              refine RC.out.mono ?_
              rintro e' w4 ⟨rfl, hb4⟩
              have hownW := hown3.below hb4
              have hbW : Below W1.heap.size W1 w4 := hb3.trans (hb4.mono hb3.size)
              have hbs := hbW.size
              clear hown3 hb3 hb4 cz
              generalize rn S q = x at *
              generalize rd S q = y at *
              go_wp2_with (at_builtin; refine wpList_append_own _ rfl _ _ 30 rfl W1.heap.size 23 i0 (.agg #[.int .i64 0, .int .i64 0]) 2 16 Try.underlying30 hi0 hz0 hz1 hz2 rfl (by decide) _ _ _ rfl (hownW.row.alloc _) ⟨w4.heap.size, 0, none⟩ 1 1 [.int .i64 x, .int .i64 y] rfl rfl (cell2_new _ _ _ _ rfl) ?c2 ?c3 ?c4 ?c5 ?_)
              case c2 => intro u hu; simp at hu; rcases hu with rfl | rfl <;> rfl
              case c3 => unfold maxLen; omega
              case c4 => omega
              case c5 => simp; omega
              intro v' w3 hown' hgrow _
              have O3 : Hid (OwnR w3 W1.heap.size v' ((midL c e).take (i + 1))) := Lib.hid (by rw [T.out]; exact OwnR.snoc (by first | rfl | simp) hown')
              have B3 := Lib.hid (below_append hbW hbs hownW.row hgrow)
              clear hown' hgrow hownW hbW
              go_wp2
              go_roundw
              case rel => exact ⟨i + 1, by omega, by go_num, O3.out, B3.out⟩
              case measure => simp [intOf]; omega
        · have ei : i = c.length := by omega
          subst ei
          rw [List.take_of_length_le (by rw [ML.out]; exact Nat.le_refl _)] at hown
          have O := Lib.hid hown
          have B := Lib.hid (B1.out.trans (hbi.mono B1.out.size))
          clear hown hbi
          go_wp2
          go_ret2
          exact ⟨_, by rw [ME.out]; rfl, by unfold midV; rw [if_pos ME.out]; exact O.out.at (by rw [ML.out]; omega), B.out⟩

set_option maxRecDepth 100000 in
set_option maxHeartbeats 4000000 in
theorem rMiddle_any (v : Value) (c : List Int) (e : Int) (w : World) (hv : IntsAt w v c) :
    Calls Try.prog 32 #[v, .int .i64 e] w (GivesM c e w) := by
  by_cases hok : askE c e = 0 ∧ c.length ≤ 7
  · exact rMiddle_ok v c e w hv hok.1 hok.2
  · have CK := Lib.hid (rasked_any v c e w hv)
    obtain ⟨va, vcap, rfl, _⟩ := hv
    by_cases hask : askE c e = 0
    · have h7 : (7 : Int) < c.length := by omega
      have ME := Lib.hid (show midE c e = 5 by unfold midE; rw [if_pos hask, if_pos (by omega)])
      rw [hask] at CK
      clear hask hok
      go_enter Try.func32, Try.ntmps32
      go_wp2_with fail
      refine CK.out.mono ?_
      rintro e' w' ⟨rfl, rfl⟩
      go_wp2
      go_ret2
      exact ⟨_, by rw [ME.out]; rfl, by unfold midV; rw [if_neg (by rw [ME.out]; decide)]; exact rats_nil _, Below.refl _ _⟩
    · have ME := Lib.hid (show midE c e = askE c e by unfold midE; rw [if_neg hask])
      have MN := Lib.hid hask
      have hb : (askE c e != 0) = true := bne_iff_ne.2 hask
      generalize askE c e = ae at *
      clear hask hok
      go_enter Try.func32, Try.ntmps32
      go_wp2_with fail
      refine CK.out.mono ?_
      rintro e' w' ⟨rfl, rfl⟩
      go_wp2
      go_ret2
      exact ⟨_, by rw [ME.out]; rfl, by unfold midV; rw [if_neg (by rw [ME.out]; exact MN.out)]; exact rats_nil _, Below.refl _ _⟩

end Go.Proofs.Ytaakefjblldccaa
