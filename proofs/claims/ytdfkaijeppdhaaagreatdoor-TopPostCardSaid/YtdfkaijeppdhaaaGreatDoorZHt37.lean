/- Part of the proof. -/
import Derived.Test.YtdfkaijeppdhaaaGreatDoorZHt36

set_option maxRecDepth 100000
set_option maxHeartbeats 8000000
set_option linter.unusedSimpArgs false
set_option linter.unusedVariables false

namespace Go.Proofs.YtdfkaijeppdhaaaGreatDoor
open Go.RowKit Go.Shelf
def ansK(k:Nat)(ns:List Int):List ByteArray->ByteArray×Int:=
 if k=0 then a2q else if k=1 then a1i else if k=2 then a2M else a15 ns
def aoD(kn:Kn):Cmd->ByteArray×Int
 | .stock n=>a3v n kn
 | .share m l=>a2L l m kn
 | .asked k l ns=>a0n (ansK k ns) l kn
 |_=>(emp,100)
def ant(b:anl)(line:ByteArray):ByteArray×Int:=match a05 line with
 |some c=>aoD (a07 (ann b)) c
 |none=>(emp,100)
theorem alq(P n:Nat)(F:List Nat)(b:anl)(line:ByteArray)(hs:line.size<=1000000)(w:World)(h:PostAt w P F n b)(hok:a02 b)(hV:Vars w):
  Calls Tryz.prog 36 #[.pointer (some ⟨P,0,none⟩),.string line] w (a0s (ant b line) w):=by
 cases hc:a05 line with
 |none=>
  have e:ant b line=(emp,100):=by unfold ant;rw[hc]<;>rfl
  rw[e];exact a8Q P n F b line hs w h hV (by rw[hc];rfl)
 | some c=>
  have hsh:=Cmd.shape hc;cases c with
  |put x t=>
   have e:ant b line=(emp,100):=by unfold ant;rw[hc]<;>rfl
   rw[e];exact a8Q P n F b line hs w h hV (by rw[hc];rfl)
  |drop x=>
   have e:ant b line=(emp,100):=by unfold ant;rw[hc]<;>rfl
   rw[e];exact a8Q P n F b line hs w h hV (by rw[hc];rfl)
  |add x m=>
   have e:ant b line=(emp,100):=by unfold ant;rw[hc]<;>rfl
   rw[e];exact a8Q P n F b line hs w h hV (by rw[hc];rfl)
  |stock x=>
   have e:ant b line=a3v x (a07 (ann b)):=by unfold ant;rw[hc]<;>rfl
   rw[e];exact afM P n F b line hs w h hok hV x hc
  |share m l=>
   have e:ant b line=a2L l m (a07 (ann b)):=by unfold ant;rw[hc]<;>rfl
   rw[e];have h1:=hsh.1 m l rfl;exact afN P n F b line hs w h hok hV m l hc (by omega) (by omega)
  |asked k l ns=>
   have e:ant b line=a0n (ansK k ns) l (a07 (ann b)):=by unfold ant;rw[hc]<;>rfl
   rw[e];have h1:=hsh.2 k l ns rfl;unfold Shp at h1;rcases h1 with⟨rfl,h2,h3⟩|⟨rfl,h2,h3⟩|⟨rfl,h2,h3⟩|⟨rfl,h2,h3⟩
   ·exact a6J P n F b line hs w h hok hV l ns hc (by omega) (by omega)
   ·exact acK P n F b line hs w h hok hV l ns hc
   ·exact adI P n F b line hs w h hok hV l ns hc
   exact abn P n F b line hs w h hok hV l ns hc
theorem a6c{b c:anl}(h:BookEq b c)(line:ByteArray):ant b line=ant c line:=by unfold ant;rw[h.all]
end Go.Proofs.YtdfkaijeppdhaaaGreatDoor
