/- Plain mathematics: for two claims the old rule, the rule of two and the mean over both orders are the same. -/
import Derived.Test.YtaakefjblldccaaMz
import Derived.Test.YtaakefjblldccaaOu
namespace Go.Proofs.Ytaakefjblldccaa
open Go.RowKit

theorem garm_eq (a b e : Int) : garm a b e 1 = e + max (e - b) 0 - max (e - a) 0 := by
  unfold garm
  rw [Int.mul_one, Int.mul_one]
  omega
theorem old_one {x y Q e a b : Int} (hQ : 1 ≤ Q) (hs : x + y = e * Q) (hf : FairI a b x y Q) : x * 2 = garm a b e 1 * Q := by
  unfold FairI at hf
  rw [hs] at hf
  rw [garm_eq]
  have h1 := max_scale (D := Q) (t := e - b) (by omega)
  have h2 := max_scale (D := Q) (t := e - a) (by omega)
  rw [Int.mul_sub, Int.mul_comm Q e, Int.mul_comm Q b] at h1
  rw [Int.mul_sub, Int.mul_comm Q e, Int.mul_comm Q a] at h2
  rw [← h1, ← h2] at hf
  rw [Int.sub_mul, Int.add_mul, Int.mul_comm (max (e - b) 0), Int.mul_comm (max (e - a) 0)]
  omega
/-- The two awards. -/
def twoL (a b e : Int) : List Rat2 := [red (garm a b e 1) 2, red (garm b a e 1) 2]
theorem old_two {a b e : Int} (hc : Cvl [a, b]) (he : 0 ≤ e) (ht : e ≤ tot [a, b]) : shareL [a, b] e 4 = twoL a b e := by
  have hs := hc.shr2 he ht (r := 4) (by omega)
  have hsum := hs.sum
  simp only [sumf] at hsum
  have ha := hc.holds a (by simp)
  have hb := hc.holds b (by simp)
  have h1 := old_fair (c := [a, b]) (fun x hx => (hc.holds x hx).1) he ht ha.1 hb.1
  have h2 := old_fair (c := [a, b]) (fun x hx => (hc.holds x hx).1) he ht hb.1 ha.1
  have hq := hs.hQ
  have e1 := old_one (e := e) hq (by omega) h1
  have e2 := old_one (e := e) hq (by omega) h2
  rw [hs.aw]
  unfold twoL
  simp only [List.map_cons, List.map_nil]
  rw [red_eq hq (by decide) e1, red_eq hq (by decide) e2]
theorem mid_two {a b e : Int} (ha : 0 ≤ a) (hb : 0 ≤ b) (he : 0 ≤ e) (ht : e ≤ a + b) : midL [a, b] e = twoL a b e := by
  rw [midL_eq]
  have h : totL [a, b] e (orders 2) = [garm a b e 1, garm b a e 1] := by
    rw [garm_eq, garm_eq]
    simp [totL, sumT, sumI, orders, pF, swapL, turnS, zst, List.range_succ]
    omega
  show (totL [a, b] e (orders 2)).map _ = _
  rw [h]
  rfl

end Go.Proofs.Ytaakefjblldccaa
