/- Part of the proof. -/
import Derived.Test.YtdfkaijeppdhaaaGreatDoorZHt47
import Derived.Test.YtdfkaijeppdhaaaGreatDoorZHt11
set_option maxRecDepth 100000
set_option maxHeartbeats 8000000
set_option linter.unusedSimpArgs false
set_option linter.unusedVariables false

namespace Go.Proofs.YtdfkaijeppdhaaaGreatDoor
open Go.ChangeShapes Go.WideShapes Go.ChangeAt Go.RowKit Go.Deep
theorem Tryz.cellsStrOne:Tryz.prog.cellsOf 9=1:=by kernel_rfl
theorem agf{α:Type}{l:List α}{n j:Nat}(hj:j<n)(d:α):(l.take n).getD j d=l.getD j d:=by
 simp[abs,hj]
theorem akp{α:Type}{l:List α}{j:Nat}(hj:j<l.length)(d d':α):l.getD j d=l.getD j d':=by
 rw[abs,abs,alz hj];rfl
theorem agh(b off k:Nat):(⟨b,off,none⟩:Addr).add k=⟨b,off+k,none⟩:=by simp[Addr.add]
theorem open_strl{H:Type}{enc:TypeId×Value->H}{W:World}{base:Nat}{v:Value}{d:DataW H}{p:List MemPlace}(ho:Value.okWide Tryz.prog W .any base 22 v)
  (h:DataW.Trod enc Tryz.prog W 0 (fun _=>true) true 22 v d p):∃l,StrsIn W v l:=by
 obtain⟨a0,len,cap,rfl⟩:=okWide_slice Tryz.underlying22 ho;obtain⟨fuel,hf⟩:=h;rcases Go.ChangeShapes.open_strings Tryz.underlying22 Tryz.underlying9 Tryz.cellsStrOne hf with⟨hcs,hx⟩|⟨a,len',cap',ss,hcs,_,hl,hm,hz,hx,hcell,hwz⟩
 ·simp[Value.cells]at hcs;obtain⟨rfl,rfl,rfl⟩:=hcs;exact⟨[],⟨none,0,rfl,fun h=>by simp at h⟩,by simp,fun s hs=>by simp at hs⟩
 simp[Value.cells]at hcs;obtain⟨rfl,rfl,rfl⟩:=hcs;simp only[if_true]at hz;have hn:(ss.take len).length=len:=by simp;omega
 refine⟨ss.take len,⟨some a,cap,by rw[hn],fun h0=>?_⟩,by rw[hn];exact alF hl hm,fun s hs=>hwz s (amb hs)⟩;rw[hn]at h0;obtain⟨b,off,spot⟩:=a;have hspot:spot=none:=by simpa [Addr.add]using World.cell?_spot (hcell 0 (by omega))
 subst hspot;refine⟨b,off,rfl,fun j hj=>?_⟩;rw[hn]at hj;rw[<-agh,hcell j (by omega),agf hj,akp (by omega)]
end Go.Proofs.YtdfkaijeppdhaaaGreatDoor
