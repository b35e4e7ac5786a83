/- Part of the proof. -/
import Derived.Test.YtdfkaijeppdhaaaGreatDoorZHs36

set_option maxRecDepth 100000
set_option maxHeartbeats 8000000

namespace Go.Proofs.YtdfkaijeppdhaaaGreatDoor
open Proofs.Tryz Go.RowKit Go.Shelf
def ansK(k:Nat)(ns:List Int):List ByteArray->ByteArray×Int:=
 if k=0 then a3d else if k=1 then a1L else if k=2 then a3D else a1u ns
def abS(kn:Kn):Cmd->ByteArray×Int
 | .stock n=>a4t n kn
 | .share m l=>a3C l m kn
 | .asked k l ns=>a0B (ansK k ns) l kn
 |_=>(emp,100)
def a0k(b:a00)(line:ByteArray):ByteArray×Int:=match a08 line with
 |some c=>abS (a0e (a06 b)) c
 |none=>(emp,100)
theorem ano(P n:Nat)(F:List Nat)(b:a00)(line:ByteArray)(hs:line.size<=1000000)(w:World)(h:PostAt w P F n b)(hok:a02 b)(hV:Vars w):
  Calls prog 36 #[.pointer (some ⟨P,0,none⟩),.string line] w (a0J (a0k b line) w):=by
 cases hc:a08 line with
 |none=>
  have e:a0k b line=(emp,100):=by unfold a0k;rw[hc]<;>rfl
  rw[e];exact aaq P n F b line hs w h hV (by rw[hc];rfl)
 | some c=>
  have hsh:=Cmd.shape hc;cases c with
  |put x t=>
   have e:a0k b line=(emp,100):=by unfold a0k;rw[hc]<;>rfl
   rw[e];exact aaq P n F b line hs w h hV (by rw[hc];rfl)
  |drop x=>
   have e:a0k b line=(emp,100):=by unfold a0k;rw[hc]<;>rfl
   rw[e];exact aaq P n F b line hs w h hV (by rw[hc];rfl)
  |add x m=>
   have e:a0k b line=(emp,100):=by unfold a0k;rw[hc]<;>rfl
   rw[e];exact aaq P n F b line hs w h hV (by rw[hc];rfl)
  |stock x=>
   have e:a0k b line=a4t x (a0e (a06 b)):=by unfold a0k;rw[hc]<;>rfl
   rw[e];exact ahI P n F b line hs w h hok hV x hc
  |share m l=>
   have e:a0k b line=a3C l m (a0e (a06 b)):=by unfold a0k;rw[hc]<;>rfl
   rw[e];have h1:=hsh.1 m l rfl;exact ahJ P n F b line hs w h hok hV m l hc om om
  |asked k l ns=>
   have e:a0k b line=a0B (ansK k ns) l (a0e (a06 b)):=by unfold a0k;rw[hc]<;>rfl
   rw[e];have h1:=hsh.2 k l ns rfl;unfold Shp at h1;rcases h1 with⟨rfl,h2,h3⟩|⟨rfl,h2,h3⟩|⟨rfl,h2,h3⟩|⟨rfl,h2,h3⟩
   ·exact a8b P n F b line hs w h hok hV l ns hc om om
   ·exact aex P n F b line hs w h hok hV l ns hc
   ·exact afD P n F b line hs w h hok hV l ns hc
   exact adb P n F b line hs w h hok hV l ns hc
end Go.Proofs.YtdfkaijeppdhaaaGreatDoor
