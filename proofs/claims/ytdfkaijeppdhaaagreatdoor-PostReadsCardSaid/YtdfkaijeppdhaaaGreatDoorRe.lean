/- Contract: Read of the program. -/
import Derived.Test.YtdfkaijeppdhaaaGreatDoorRd
namespace Go.Proofs.YtdfkaijeppdhaaaGreatDoor
open Go.RowKit Go.Shelf

/-- What Read hands back. -/
def ReadsPost (o : Option Book) (w : World) (e : Ending) (w' : World) : Prop :=
  (match o with
    | some b => ∃ v, e = .returned (.tuple #[v, .int .i64 0]) ∧ ListAt w' v (allB b) ∧ BookOk b
    | none => e = .returned (.tuple #[.slice none 0 0, .int .i64 3])) ∧ Below w.heap.size w w'
set_option maxHeartbeats 1000000 in
theorem pread_any (s : ByteArray) (w : World) (hV : Vars w) (hs : s.size ≤ 4000000000) : Calls Tryz.prog 40 #[.string s] w (ReadsPost (readB s) w) := by
  have HR := Lib.hid (read_any s w hV hs)
  unfold ReadPost at HR
  cases h : readB s with
  | none =>
    rw [h] at HR
    clear h
    go_enter Tryz.func40, Tryz.ntmps40
    go_wp2_with fail
    refine HR.out.mono ?_
    rintro e w1 ⟨⟨pv, rfl⟩, hb1⟩
    have HB1 := Lib.hid hb1
    clear hb1
    go_wp2
    go_ret2
    exact ⟨rfl, HB1.out⟩
  | some b =>
    have hok := (readB_some h).1
    rw [h] at HR
    have HOK := Lib.hid hok
    clear h hok
    go_enter Tryz.func40, Tryz.ntmps40
    go_wp2_with fail
    refine HR.out.mono ?_
    rintro e w1 ⟨⟨K, vs, rfl, hK, hbk, hfar⟩, hb1⟩
    have HA := Lib.hid (all_any K _ b w1 hbk.at HOK.out)
    have HB1 := Lib.hid hb1
    clear hb1 hbk hfar
    go_wp2_with fail
    refine HA.out.mono ?_
    rintro e w2 ⟨v, rfl, hl, _, hb2⟩
    have HL := Lib.hid hl
    have HB2 := Lib.hid (HB1.out.trans (hb2.mono HB1.out.size))
    clear hl hb2
    go_wp2
    go_ret2
    exact ⟨⟨_, rfl, HL.out, HOK.out⟩, HB2.out⟩
end Go.Proofs.YtdfkaijeppdhaaaGreatDoor
