/- Contract: Parse of the program at every string. -/
import Derived.Test.YtbgflacfemeblaaDoorPa
namespace Go.Proofs.YtbgflacfemeblaaDoor
open Go.RowKit Go.Shelf

set_option maxRecDepth 100000 in
set_option maxHeartbeats 1000000 in
theorem tParse_any (s : ByteArray) (w : World) (hV : Vars w) : Calls Tryd.prog 8 #[.string s] w (GivesT (parP s) w) := by
  by_cases hs : s.size ≤ 240
  · exact callsIn_wide.1 (tParse_in s w hV hs)
  · have h1 : (240 : Int) < s.size := by omega
    have HP := Lib.hid (show parP s = none by unfold parP; rw [if_pos (by omega)])
    have hb : Below w.heap.size w ((w.alloc (.cells #[.slice none 0 0] 22)).alloc (.cells #[.int .i64 3] 25)) := ((Below.refl _ w).alloc (Nat.le_refl _) _).alloc (by simp) _
    rw [HP.out]
    have HB := Lib.hid hb
    clear hb
    go_enter Tryd.func8, Tryd.ntmps8
    go_wp2
    refine bodyPost_ret (v := .tuple #[.slice none 0 0, .int .i64 3]) (by simp [results, Tryd.results8, go_sem]) rfl ?_
    trace_state
    exact ⟨_, rfl, nil_rows _, HB.out⟩
end Go.Proofs.YtbgflacfemeblaaDoor
