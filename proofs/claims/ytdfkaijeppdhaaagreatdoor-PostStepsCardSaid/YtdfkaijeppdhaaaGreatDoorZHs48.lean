/- Part of the proof. -/
import Derived.Test.YtdfkaijeppdhaaaGreatDoorZHs47
import Derived.Test.YtdfkaijeppdhaaaGreatDoorZHs44
import Derived.Lib.SmallJoins

set_option maxRecDepth 100000
set_option maxHeartbeats 8000000
set_option linter.unusedSimpArgs false
set_option linter.unusedVariables false

namespace Go.Proofs.YtdfkaijeppdhaaaGreatDoor
open Proofs.Tryz Go.ChangeShapes Go.WideShapes Go.ChangeAt Go.RowKit Go.Deep
section
variable{H:Type}{enc:TypeId×Value->H}{P:Program}{w:World}{base:Nat}{spare:Nat->Bool}{held:Bool}
theorem a8Z{t e:TypeId}{fs:Array Field}{fuel:Nat}{cs:List Value}{x:DataW H×List MemPlace}(ht:P.underlying t=some (.slice e))(he:P.underlying e=some (.struct fs))
  (hone:oneCellFields P fs=true)(hC:P.cellsOf e=fs.size)(h:DataW.trod enc P w base spare held fuel t cs=some x):
  (cs=[.slice none 0 0]/\x=(.nil,[]))\/
  ∃ (a:Addr) (len cap m:Nat) (D:Nat->DataW H) (Pl:Nat->List MemPlace),cs=[.slice (some a) len cap]/\base<=a.block/\len<=cap/\cap<=maxLen/\m=(if spare a.block then cap else len)/\
   x=(.slice ((List.range len).map D) ((List.range (m-len)).map fun j=>D (len+j)),MemPlace.row a (m * fs.size)++(List.range m).flatMap Pl)/\
   ∀i,i<m->∃(ys:List (DataW H×List MemPlace)) (n:Nat),D i= .agg (ys.map (·.1))/\Pl i=ys.flatMap (·.2)/\ys.length=fs.size/\
    ∀(j:Nat) (f:Field),fs[j]? =some f->∃(v:Value) (y:DataW H×List MemPlace),w.cell? (a.add (i * fs.size+j))=some v/\ys[j]? =some y/\DataW.trod enc P w base spare held n f.type [v]=some y:=by
 rcases open_slice ht h with h0|⟨a,len,cap,m,n,D,Pl,hcs,hb,hl,hm,hmm,hx,hi⟩
 ·exact .inl h0
 refine .inr ⟨a,len,cap,m,D,Pl,hcs,hb,hl,hm,hmm,by rw[hC]at hx;exact hx,fun i him=>?_⟩
 obtain⟨cs',hc,ht'⟩:=hi i him;rw[hC]at hc;obtain⟨ys,n',hn',hy,hlen,hyl,hf⟩:=DataW.trod_struct he ht';obtain⟨_,hcl,hat⟩:=World.cells?_some hc;simp only[Prod.mk.injEq]at hy;refine⟨ys,n',hy.1,hy.2,hyl,fun j f hj=>?_⟩;obtain⟨ho,hk⟩:=hone_of hone j f hj;have hjl:j<fs.size:=(aog.1 hj).1
 have hcell:=hat j hjl;have hv:cs'[j]? =some (cs'[j]' om):=aoj om;have h1:=hf j f hj;rw[ho,hk]at h1
 have hone':(cs'.drop j).take 1=[cs'[j]' om]:=by
  rw[aoL om];rfl
 rw[hone']at h1;have hys:ys[j]? =some (ys[j]' om):=aoj om;refine⟨_,_,?_,hys,h1.trans hys⟩;rw[<-Go.Deep.add_add,hcell,hv]
end
theorem agl{α:Type}(P:Nat->α->Prop)(d:α):∀n,(∀i,i<n->∃x,P i x)->∃l:List α,l.length=n/\∀i,i<n->P i (l.getD i d)
 |0,_=>⟨[],rfl,fun i hi=>om⟩
 |n+1,h=>by
  obtain⟨l,hl,hp⟩:=agl P d n (fun i hi=>h i om);obtain⟨x,hx⟩:=h n om;refine⟨l++[x],by simp[hl],fun i hi=>?_⟩;by_cases hin:i<n
  ·rw[show (l++[x]).getD i d=l.getD i d by simp[aoh,apn (show i<l.length by omega)]];exact hp i hin
  obtain rfl:i=n:=om;rw[show (l++[x]).getD i d=x by rw[<-hl];simp[aoh]];exact hx
theorem a5w(b off k:Nat):(⟨b,off,none⟩:Addr).add k=⟨b,off+k,none⟩:=by simp[Addr.add]
theorem open_steps{H:Type}{enc:TypeId×Value->H}{W:World}{base:Nat}{v:Value}{d:DataW H}{p:List MemPlace}(ho:Value.okWide prog W .any base 73 v)
  (h:DataW.Trod enc prog W 0 (fun _=>true) true 73 v d p):∃l,agk W v l:=by
 obtain⟨a0,len,cap,rfl⟩:=okWide_slice underlying73 ho;obtain⟨fuel,hf⟩:=h;rcases a8Z underlying73 underlying75 ot ot hf with⟨hcs,hx⟩|⟨a,len',cap',m,D,Pl,hcs,_,hl,hm,hmm,hx,hfs⟩
 ·simp[Value.cells]at hcs;obtain⟨rfl,rfl,rfl⟩:=hcs;exact⟨[],none,0,rfl,by simp,fun h=>by simp at h⟩
 simp[Value.cells]at hcs;obtain⟨rfl,rfl,rfl⟩:=hcs;simp only[if_true]at hmm;subst hmm;obtain⟨b,off,spot⟩:=a
 have key:∀i,i<len->∃x:a5v,W.cell? ((⟨b,off,spot⟩:Addr).add (i * 4))=some (.int .u8 x.1)/\W.cell? ((⟨b,off,spot⟩:Addr).add (i * 4+1))=some (.int .u8 x.2.1)/\W.cell? ((⟨b,off,spot⟩:Addr).add (i * 4+2))=some (.int .u8 x.2.2.1)/\W.cell? ((⟨b,off,spot⟩:Addr).add (i * 4+3))=some (.string x.2.2.2)/\aks x:=by
  intro i hil;obtain⟨ys,n,_,_,_,hg⟩:=hfs i om;obtain⟨v0,y0,c0,_,t0⟩:=hg 0 _ rfl;obtain⟨v1,y1,c1,_,t1⟩:=hg 1 _ rfl;obtain⟨v2,y2,c2,_,t2⟩:=hg 2 _ rfl;obtain⟨v3,y3,c3,_,t3⟩:=hg 3 _ rfl;obtain⟨n0,e0,_,z0⟩:=DataW.trod_int (show prog.underlying _=some (.int .u8)from underlying5) t0;obtain⟨n1,e1,_,z1⟩:=DataW.trod_int (show prog.underlying _=some (.int .u8)from underlying5) t1;obtain⟨n2,e2,_,z2⟩:=DataW.trod_int (show prog.underlying _=some (.int .u8)from underlying5) t2;obtain⟨s3,e3,_,z3⟩:=DataW.trod_string (show prog.underlying _=some .string from underlying9) t3;simp only[List.cons.injEq,and_true]at e0 e1 e2 e3;subst e0 e1 e2 e3;refine⟨(n0,n1,n2,s3),c0,c1,c2,c3,?_⟩;simp[Lit.wf,IntKind.min,IntKind.max,IntKind.signed,IntKind.bits]at z0 z1 z2;have h0:0<=n0/\n0<256:=om;have h1:0<=n1/\n1<256:=om;have h2:0<=n2/\n2<256:=om;exact⟨h0,h1,h2,z3⟩
 obtain⟨l,hll,hlk⟩:=agl _ a5U len key;clear key;subst hll;refine⟨l,some ⟨b,off,spot⟩,m,rfl,aor hl hm,fun h0=>?_⟩
 have hspot:spot=none:=by
  obtain⟨hx,_⟩:=hlk 0 h0;simpa [Addr.add]using World.cell?_spot hx
 subst hspot;refine⟨b,off,rfl,fun j hj=>?_⟩;have hs:=hlk j hj;rw[a5w,a5w,a5w,a5w]at hs;exact hs
end Go.Proofs.YtdfkaijeppdhaaaGreatDoor
