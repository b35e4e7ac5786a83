/- Part of the proof. -/
import Derived.Test.YtdfkaijeppdhaaaGreatDoorZHs03
import Derived.Lib.AppendIntMem
set_option maxRecDepth 100000
set_option maxHeartbeats 8000000

namespace Go.Proofs.YtdfkaijeppdhaaaGreatDoor
open Proofs.Tryz Go.RowKit Go.Shelf
structure Vars(w:World):Prop where
 ml:∃m,w.cell? ⟨0,0,none⟩=some (.int .i64 m)
 tab:Lib.TabIs prog w "internal/strconv.uint64pow10" .u64 Lib.pow10Tab
 es:∃ev,w.cell? ⟨2,0,none⟩=some ev/\(ev= .nilIface\/∃te pe,ev= .iface te pe)
 er:∃ev,w.cell? ⟨3,0,none⟩=some ev/\(ev= .nilIface\/∃te pe,ev= .iface te pe)
def a1z(k:Nat):Prop:=k=0\/k=1\/k=2\/k=3
theorem agv{n:String}{g:Nat}{k:IntKind}{zs:List Int}{w w':World}(hg:prog.globalNamed n=some g)(h:Lib.TabIs prog w n k zs)(hk:w'.heap[g]? =w.heap[g]?):Lib.TabIs prog w' n k zs:=by
 unfold Lib.TabIs World.var? at h⊢;rw[hg]at h⊢;simp only[Option.bind_some]at h⊢;rw[hk];exact h
theorem akC{n:String}{g:Nat}{k:IntKind}{zs:List Int}{w:World}(hg:prog.globalNamed n=some g)(h:Lib.TabIs prog w n k zs):g<w.heap.size:=by
 unfold Lib.TabIs World.var? at h;rw[hg]at h;simp only[Option.bind_some]at h;rcases Nat.lt_or_ge g w.heap.size with h'|h'
 ·exact h'
 rw[apz h']at h;cases h
theorem Vars.lt{w:World}(h:Vars w){k:Nat}(hk:a1z k):k<w.heap.size:=by
 obtain⟨_,h0⟩:=h.ml;obtain⟨_,h1,_⟩:=h.es;obtain⟨_,h2,_⟩:=h.er;rcases hk with rfl|rfl|rfl|rfl
 ·exact World.block_lt_of_cell? _ _ h0
 ·exact akC (g:=1) ot h.tab
 ·exact World.block_lt_of_cell? _ _ h1
 exact World.block_lt_of_cell? _ _ h2
theorem Vars.keep{w w':World}(h:Vars w)(hk:∀k,a1z k->w'.heap[k]? =w.heap[k]?):Vars w':=by
 obtain⟨m,h0⟩:=h.ml;obtain⟨e1,h1,k1⟩:=h.es;obtain⟨e2,h2,k2⟩:=h.er
 exact⟨⟨m,(World.cell?_of_block (hk _ (.inl rfl))).trans h0⟩,agv (g:=1) ot h.tab (hk _ (.inr (.inl rfl))),
  ⟨e1,(World.cell?_of_block (hk _ (.inr (.inr (.inl rfl))))).trans h1,k1⟩,⟨e2,(World.cell?_of_block (hk _ (.inr (.inr (.inr rfl))))).trans h2,k2⟩⟩
theorem Vars.below{w w':World}(h:Vars w)(hb:Below w.heap.size w w'):Vars w':=h.keep fun k hk=>hb.block k (h.lt hk)
structure Pst where
 P:Nat
 F:List Nat
 n:Nat
 b:a00
structure Posts(w:World)(m:Nat)(ps:Nat->Pst):Prop where
 vars:Vars w
 post:∀i,i<m->PostAt w (ps i).P (ps i).F (ps i).n (ps i).b
 apart:∀i j,i<m->j<m->i≠j->∀k∈(ps i).F,k∉(ps j).F
 free:∀i,i<m->∀k∈(ps i).F,¬a1z k
def a2X(ps:Nat->Pst)(j:Nat)(p:Pst):Nat->Pst:=fun k=>if k=j then p else ps k
theorem a0V(ps:Nat->Pst)(j:Nat)(p:Pst):a2X ps j p j=p:=by simp[a2X]
theorem a0C(ps:Nat->Pst){j k:Nat}(p:Pst)(h:k≠j):a2X ps j p k=ps k:=by simp[a2X,h]
def a2q(w:World)(G F:List Nat):Prop:=∀k∈F,k∈G\/w.heap.size<=k
theorem Posts.nil{w:World}(hv:Vars w)(ps:Nat->Pst):Posts w 0 ps:=⟨hv,fun i h=>om,fun i j h=>om,fun i h=>om⟩
theorem Posts.lt{w:World}{m:Nat}{ps:Nat->Pst}(h:Posts w m ps){i:Nat}(hi:i<m){k:Nat}(hk:k∈(ps i).F):k<w.heap.size:=(h.post i hi).lt hk
theorem Posts.keep{w w':World}{m:Nat}{ps:Nat->Pst}(h:Posts w m ps)(hv:∀k,a1z k->w'.heap[k]? =w.heap[k]?)(hk:∀i,i<m->∀k∈(ps i).F,w'.heap[k]? =w.heap[k]?):Posts w' m ps:=
 ⟨h.vars.keep hv,fun i hi=>(h.post i hi).keep (hk i hi),h.apart,h.free⟩
theorem Posts.below{w w':World}{m:Nat}{ps:Nat->Pst}(h:Posts w m ps)(hb:Below w.heap.size w w'):Posts w' m ps:=
 h.keep (fun k hk=>hb.block k (h.vars.lt hk)) fun _ hi k hk=>hb.block k (h.lt hi hk)
theorem Posts.turn{w w':World}{m:Nat}{ps:Nat->Pst}(h:Posts w m ps){i:Nat}(hi:i<m){p:Pst}(hp:PostAt w' p.P p.F p.n p.b)(hF:a2q w (ps i).F p.F)(ho:Off (ps i).F w w'):Posts w' m (a2X ps i p):=by
 refine⟨h.vars.keep fun k hk=>ho.block k (h.vars.lt hk) fun hm=>h.free i hi k hm hk,fun j hj=>?_,fun a c ha hc hac k hk=>?_,fun j hj k hk=>?_⟩
 ·by_cases e:j=i
  ·subst e;rw[a0V];exact hp
  rw[a0C _ _ e];exact(h.post j hj).off ho (h.apart j i hj hi e)
 ·by_cases ea:a=i
  ·subst ea;rw[a0V]at hk;rw[a0C _ _ (Ne.symm hac)];intro hk2;rcases hF k hk with h1|h1
   ·exact h.apart a c ha hc hac k h1 hk2
   have:=h.lt hc hk2;omega
  rw[a0C _ _ ea]at hk;by_cases ec:c=i
  ·subst ec;rw[a0V];intro hk2;rcases hF k hk2 with h1|h1
   ·exact h.apart a c ha hc hac k hk h1
   have:=h.lt ha hk;omega
  rw[a0C _ _ ec];exact h.apart a c ha hc hac k hk
 by_cases e:j=i
 ·subst e;rw[a0V]at hk;rcases hF k hk with h1|h1
  ·exact h.free j hj k h1
  intro hv;have:=h.vars.lt hv;omega
 rw[a0C _ _ e]at hk;exact h.free j hj k hk
theorem Posts.grow{w w':World}{m:Nat}{ps:Nat->Pst}(h:Posts w m ps){p:Pst}(hp:PostAt w' p.P p.F p.n p.b)(hF:a2q w [] p.F)(hb:Below w.heap.size w w'):Posts w' (m+1) (a2X ps m p):=by
 have hnew:∀k∈p.F,w.heap.size<=k:=fun k hk=>(hF k hk).resolve_left oz
 refine⟨h.vars.below hb,fun j hj=>?_,fun a c ha hc hac k hk=>?_,fun j hj k hk=>?_⟩
 ·by_cases e:j=m
  ·subst e;rw[a0V];exact hp
  rw[a0C _ _ e];exact(h.post j om).below hb
 ·by_cases ea:a=m
  ·subst ea;rw[a0V]at hk;rw[a0C _ _ (Ne.symm hac)];intro hk2;have:=h.lt om hk2;have:=hnew k hk;omega
  rw[a0C _ _ ea]at hk;by_cases ec:c=m
  ·subst ec;rw[a0V];intro hk2;have:=h.lt om hk;have:=hnew k hk2;omega
  rw[a0C _ _ ec];exact h.apart a c om om hac k hk
 by_cases e:j=m
 ·subst e;rw[a0V]at hk;intro hv;have:=h.vars.lt hv;have:=hnew k hk;omega
 rw[a0C _ _ e]at hk;exact h.free j om k hk
end Go.Proofs.YtdfkaijeppdhaaaGreatDoor
namespace Go.Proofs.YtdfkaijeppdhaaaGreatDoor
open Go
def a0S(s:ByteArray):Option Int:=match Lib.atoiAll s.data.toList with
 | .ok v=>some v
 |_=>none
def a1S:List UInt8->List (List UInt8)
 |[]=>[]
 |b::r=>if b==10 then []::a1S r else match a1S r with
  |[]=>[[b]]
  |x::xs=>(b::x)::xs
def a5Z(l:ByteArray):Option Ent:=match a1C 32 3 l with
 |[a,b,c,d]=>match a0S a,a0S b,a0S c with
  |some p,some n,some k=>some (p,n,k,d)
  |_,_,_=>none
 |_=>none
def follows(b:a00)(e:Ent):Bool:=betw 0 (a07 e) 3&&betw 1 (a0a e) 1000000&&a0n (a0b e)&&
 decide (a0r e=((b (a07 e).toNat).length:Int)+1)&&decide ((b (a07 e).toNat).length≠60)&&(decide ((b (a07 e).toNat).length=0)||decide (a0o (b (a07 e).toNat)<a0a e))
def a3p(b:a00)(e:Ent):Option a00:=if follows b e then some (a0H b (a07 e).toNat e)else none
def a4W:a00->List Ent->Option a00
 |b,[]=>some b
 |b,e::l=>match a3p b e with
  |some c=>a4W c l
  |none=>none
def a2y:a00->List (List UInt8)->Option a00
 |b,[]=>some b
 | b,x::l=>match a5Z (bsB x)with
  |none=>none
  |some e=>match a3p b e with
   |some c=>a2y c l
   |none=>none
def a2L(s:ByteArray):Option a00:=match a2y a1G (a1S s.data.toList)with
 |some b=>if a0z b=s then some b else none
 |none=>none
theorem a1B(b:a00)(e:Ent):follows b e=true↔0<=a07 e/\a07 e<=3/\1<=a0a e/\a0a e<=1000000/\a0n (a0b e)=true/\a0r e=((b (a07 e).toNat).length:Int)+1/\(b (a07 e).toNat).length≠60/\((b (a07 e).toNat).length=0\/a0o (b (a07 e).toNat)<a0a e):=by
 unfold follows;simp only[Bool.and_eq_true,Bool.or_eq_true,decide_eq_true_eq,betw_iff,and_assoc]
theorem abq{b c:a00}{e:Ent}(hb:a02 b)(h:a3p b e=some c):a02 c:=by
 unfold a3p at h;split at h
 ·rename_i hf
  rw[a1B]at hf;obtain⟨h0,h1,h2,h3,h4,h5,h6,h7⟩:=hf;simp only[Option.some.injEq]at h;subst h;have hn:(a07 e).toNat<4:=om
  have hk:=hb _ hn;refine afK hb (a92 hk (by have:=hk.len;omega) om h5 h2 h3 (by rw[a1I];exact h4) ?_);rcases h7 with h7|h7
  ·rw[aoz.1 h7];show (0:Int)<_;omega
  exact h7
 cases h
theorem a6S:∀(l:List (List UInt8)) {b c:a00},a02 b->a2y b l=some c->a02 c
 |[],b,c,hb,h=>by simp only[a2y,Option.some.injEq]at h;subst h;exact hb
 |x::l,b,c,hb,h=>by
  unfold a2y at h;split at h
  ·cases h
  split at h
  ·rename_i c1 h1;exact a6S l (abq hb h1) h
  cases h
theorem a6T{s:ByteArray}{b:a00}(h:a2L s=some b):a02 b/\a0z b=s:=by
 unfold a2L at h;split at h
 ·rename_i b1 h1
  split at h
  ·rename_i ht
   simp only[Option.some.injEq]at h;subst h;exact⟨a6S _ a4b h1,ht⟩
  cases h
 cases h
theorem aa3:∀(x r:List UInt8),(10:UInt8)∉x->a1S (x++10::r)=x::a1S r
 |[],r,_=>by simp[a1S]
 | b::x,r,h=>by
  have hb:(b==10)=false:=by
   rw[beq_eq_false_iff_ne];rintro rfl;simp at h
  rw[aoA,a1S,hb,aa3 x r (fun hm=>h (by simp[hm]))];simp
def a2M(e:Ent):List UInt8:=Lib.itoa (a07 e)++32::(Lib.itoa (a0r e)++32::(Lib.itoa (a0a e)++32::(a0b e).data.toList))
theorem adn(e:Ent):a3G e=a2M e++[10]:=by unfold a3G a2M;simp
theorem ado{e:Ent}(h:a3E (a0b e)=true):(10:UInt8)∉a2M e:=fun hm=>by
 unfold a2M at hm;have h1:=a7P (a07 e);have h2:=a7P (a0r e);have h3:=a7P (a0a e);have h4:=aij h;simp only[aoI,aov]at hm;simp_all
theorem a93:∀(l:List Ent),(∀e∈l,a3E (a0b e)=true)->a1S (a0Q l)=l.map a2M
 |[],_=>rfl
 |e::l,h=>by
  show a1S (a3G e++a0Q l)=_;rw[adn,aoT,apY,aa3 _ _ (ado (h e oz)),a93 l (fun x hx=>h x (by simp[hx])),aoJ]
theorem a4N(c:UInt8)(k:Nat):∀(x r:List UInt8),c∉x->a0l c (k+1) (x++c::r)=x::a0l c k r
 |[],r,_=>by simp[a0l]
 | b::x,r,h=>by
  have hb:(b==c)=false:=by
   rw[beq_eq_false_iff_ne];rintro rfl;simp at h
  rw[aoA,a0l,hb,a4N c k x r (fun hm=>h (by simp[hm]))];simp
theorem a4X(n:Int):(32:UInt8)∉Lib.itoa n:=fun h=>by have:=a7M n _ h;simp at this
theorem a7R:∀(l:List UInt8) (acc:Nat),(∀x∈l,48<=x.toNat/\x.toNat<=57)->acc * 10^l.length+10^l.length<=1000000000000000000->Lib.parseUint10 acc l= .ok (l.foldl (fun a x=>a * 10+(x.toNat-48)) acc)
 |[],_,_,_=>rfl
 | c::r,acc,h,hs=>by
  have hc:=h c oz;have hp:1<=10^r.length:=Nat.one_le_pow _ _ ox;have e1:acc * 10^(r.length+1)=acc * 10 * 10^r.length:=by rw[Nat.pow_succ,aq9 (10^r.length) 10,<-Nat.mul_assoc]
  have e2:10^(r.length+1)=10 * 10^r.length:=by rw[Nat.pow_succ,aq9]
  rw[aom,e1,e2]at hs;have b1:acc * 10<=acc * 10 * 10^r.length:=Nat.le_mul_of_pos_right _ hp
  have e3:(acc * 10+(c.toNat-48)) * 10^r.length+10^r.length<=acc * 10 * 10^r.length+10 * 10^r.length:=by
   have:(c.toNat-48+1) * 10^r.length<=10 * 10^r.length:=apC _ om;rw[aq7,Nat.one_mul]at this;rw[aq7];omega
  unfold Lib.parseUint10;rw[if_pos hc,if_neg om,if_neg om,a7R r _ (fun x hx=>h x (by simp[hx])) om];rfl
theorem a9p(u:Nat):(Lib.decDigits u).foldl (fun a x=>a * 10+(x.toNat-48)) 0=u:=by
 induction u using Nat.strongRecOn with
 |_ u ih=>
  rw[Lib.decDigits];split
  ·simp only[apv,List.foldl_nil,UInt8.toNat_ofNat'];omega
  rw[apl,ih (u / 10) om];simp only[apv,List.foldl_nil,UInt8.toNat_ofNat'];omega
theorem adp(u:Nat)(h:u<10000000000):Lib.atoiAll (Lib.itoa (u:Int))= .ok (u:Int):=by
 have hi:Lib.itoa (u:Int)=Lib.decDigits u:=by unfold Lib.itoa;rw[if_neg om,aoY]
 have hl:(Lib.decDigits u).length<=10:=by rw[Lib.decDigits_length];exact nDigits_le 9 u om
 have hb:=a2h u;have hf:=a9p u
 have hm:Lib.parseMag (Lib.decDigits u)= .ok u:=by
  unfold Lib.parseMag
  rw[if_neg (a3o u),a7R _ 0 hb (by
   have:10^(Lib.decDigits u).length<=10^10:=Nat.pow_le_pow_right ox hl
   rw[Nat.zero_mul,ap5];exact aor this ox),hf]
 rw[hi];cases hd:Lib.decDigits u with
 |nil=>exact absurd hd (a3o u)
 |cons c r=>
  have hc:=hb c (by rw[hd];simp);rw[hd]at hm;have n1:¬c.toNat=43:=om;have n2:¬c.toNat=45:=om;unfold Lib.atoiAll;simp only[n1,n2,or_self,if_false,not_false_eq_true,true_and,false_and];rw[hm];simp only;rw[if_neg om]
theorem a6U{n:Int}(h0:0<=n)(h1:n<=1000000000):a0S (itoaB n)=some n:=by
 obtain⟨u,rfl⟩:=aoH h0;unfold a0S;rw[show (itoaB (u:Int)).data.toList=Lib.itoa (u:Int)from rfl,adp u om]
theorem akD{e:Ent}(h1:0<=a07 e/\a07 e<=1000000)(h2:0<=a0r e/\a0r e<=1000000)(h3:0<=a0a e/\a0a e<=1000000):a5Z (bsB (a2M e))=some e:=by
 unfold a5Z a1C;rw[a1t];unfold a2M;rw[a4N _ _ _ _ (a4X _),a4N _ _ _ _ (a4X _),a4N _ _ _ _ (a4X _),a1p];simp only[aoJ,List.map_nil];have a1:a0S (bsB (Lib.itoa (a07 e)))=some (a07 e):=a6U h1.1 om;have a2:a0S (bsB (Lib.itoa (a0r e)))=some (a0r e):=a6U h2.1 om;have a3:a0S (bsB (Lib.itoa (a0a e)))=some (a0a e):=a6U h3.1 om;rw[a1,a2,a3,a3O];rfl
theorem ac2:∀(l:List Ent) (b:a00),(∀e∈l,a5Z (bsB (a2M e))=some e)->a2y b (l.map a2M)=a4W b l
 |[],_,_=>rfl
 |e::l,b,h=>by
  rw[aoJ,a2y,h e oz];simp only;unfold a4W;cases a3p b e with
  |none=>rfl
  |some c=>exact ac2 l c (fun x hx=>h x (by simp[hx]))
def ofP(l:List Ent)(i:Nat):List Ent:=l.filter fun e=>decide (a07 e=(i:Int))
theorem afO{b:a00}(hb:a02 b){i:Nat}(hi:i<4):ofP (a06 b) i=b i:=by
 have hm:∀j,j<4->∀e∈b j,a07 e=(j:Int):=fun j hj e he=>((hb j hj).mem he).1
 have hasc:∀j,j<4->Asc (b j):=fun j hj=>(hb j hj).asc.imp fun h=>.inl h
 refine a6N (List.Pairwise.sublist List.filter_sublist (ago hb _)) (hasc i hi) ?_;have hp:=(a5Y b).filter (fun e=>decide (a07 e=(i:Int)))
 refine hp.trans ?_
 have hs:∀j,j<4->(b j).filter (fun e=>decide (a07 e=(i:Int)))=if j=i then b j else []:=fun j hj=>by
  split
  ·rename_i h;subst h
   exact List.filter_eq_self.2 fun e he=>by rw[hm j hj e he];simp
  rename_i h
  exact List.filter_eq_nil_iff.2 fun e he=>by rw[hm j hj e he];simp;omega
 rw[List.filter_append,List.filter_append,List.filter_append,hs 0 om,hs 1 om,hs 2 om,hs 3 om];rcases (show i=0\/i=1\/i=2\/i=3 by omega)with rfl|rfl|rfl|rfl<;>simp
theorem a7S{b:a00}(hb:a02 b):∀(l2 l1:List Ent) (c:a00),l1++l2=a06 b->(∀i,i<4->c i=ofP l1 i)->∃d,a4W c l2=some d/\BookEq d b
 | [],l1,c,h,hc=>⟨c,rfl,fun i hi=>by
   rw[apj]at h;rw[hc i hi,h,afO hb hi]⟩
 | e::l2,l1,c,h,hc=>by
  obtain⟨i,hi,he⟩:=adk (b:=b) (e:=e) (by rw[<-h];simp);obtain⟨q1,q2,q3,q4⟩:=(hb i hi).mem he
  have ht:(a07 e).toNat=i:=om
  have hpre:ofP l1 i++[e]<+:b i:=by
   rw[<-afO hb hi,<-h];unfold ofP;rw[List.filter_append,List.filter_cons_of_pos (by simpa using q1)];exact⟨_,by rw[aoT,apY]⟩
  have hk:ListOk i (ofP l1 i++[e]):=(hb i hi).front hpre
  have hown:=hk.own (ofP l1 i).length oz
  simp only[List.getElem_append_right (aof _),aq8,aoP]at hown;have hlen:=hk.len;rw[aol,apu]at hlen
  have hf:follows c e=true:=by
   rw[a1B,ht,hc i hi];refine⟨om,om,q2,q3,by rw[<-a1I];exact q4,by have:=hown.2.1;omega,om,?_⟩;by_cases h0:(ofP l1 i).length=0
   ·exact .inl h0
   refine .inr ?_
   cases hl:(ofP l1 i).getLast? with
   |none=>exact absurd (by rw[List.getLast?_eq_none_iff.1 hl];rfl) h0
   |some x=>
    unfold a0o;rw[hl];exact(apL.1 hk.asc).2.2 x (List.mem_of_getLast? hl) e oz
  unfold a4W a3p;rw[if_pos hf,ht];refine a7S hb l2 (l1++[e]) _ (by rw[aoT,apY];exact h) fun j hj=>?_;unfold a0H ofP;rw[List.filter_append];by_cases hji:j=i
  ·subst hji;rw[a3n,hc j hj,List.filter_cons_of_pos (by simpa using q1)];rfl
  rw[a2U _ _ hji,hc j hj,List.filter_cons_of_neg (by rw[q1];simp;omega)];simp[ofP]
theorem a0y{b:a00}(hb:a02 b){e:Ent}(h:e∈a06 b):(0<=a07 e/\a07 e<=3)/\(1<=a0r e/\a0r e<=60)/\(1<=a0a e/\a0a e<=1000000)/\a3E (a0b e)=true:=by
 obtain⟨i,hi,hm⟩:=adk h;obtain⟨j,hj,rfl⟩:=apc hm;obtain⟨h1,h2,h3,h4,h5⟩:=(hb i hi).own j hj
 have:=(hb i hi).len
 exact⟨om,om,⟨h3,h4⟩,h5⟩
theorem ail{b:a00}(hb:a02 b):∃d,a2L (a0z b)=some d/\BookEq d b:=by
 obtain⟨d,h1,h2⟩:=a7S hb (a06 b) [] a1G rfl (fun i hi=>rfl);refine⟨d,?_,h2⟩;unfold a2L;rw[show (a0z b).data.toList=a0Q (a06 b)from rfl,a93 _ (fun e he=>(a0y hb he).2.2.2),ac2 _ _ (fun e he=>?_),h1]
 ·simp only;rw[h2.text,if_pos rfl]
 obtain⟨k1,k2,k3,_⟩:=a0y hb he;exact akD om om om
end Go.Proofs.YtdfkaijeppdhaaaGreatDoor
namespace Go.Proofs.YtdfkaijeppdhaaaGreatDoor
open Go
def a09:List UInt8->List UInt8×List UInt8×Bool
 |[]=>([],[],false)
 |b::r=>if b==32 then ([],r,true)else (b::(a09 r).1,(a09 r).2.1,(a09 r).2.2)
theorem a5j:∀(l:List UInt8) (k:Nat),a0l 32 (k+1) l=if (a09 l).2.2 then (a09 l).1::a0l 32 k (a09 l).2.1 else [(a09 l).1]
 |[],k=>rfl
 |b::r,k=>by
  by_cases hb:b=32
  ·subst hb;simp[a0l,a09]
  have hbc:(b==32)=false:=by simpa using hb
  have ih:=a5j r k;simp only[a0l,a09,hbc,Bool.false_eq_true,if_false];rw[ih];cases h:(a09 r).2.2<;>simp
theorem aa4:∀(l:List UInt8),l.count 32=if (a09 l).2.2 then (a09 l).2.1.count 32+1 else 0
 |[]=>rfl
 |b::r=>by
  by_cases hb:b=32
  ·subst hb;simp[a09]
  have hbc:(b==32)=false:=by simpa using hb
  rw[List.count_cons_of_ne hb,aa4 r];simp[a09,hbc]
theorem a60{l:List UInt8}(h:(a09 l).2.2=false):(a09 l).1=l/\(a09 l).2.1=[]:=by
 induction l with
 |nil=>exact⟨rfl,rfl⟩
 |cons b r ih=>
  by_cases hb:b=32
  ·subst hb;simp[a09]at h
  have hbc:(b==32)=false:=by simpa using hb
  simp only[a09,hbc,Bool.false_eq_true,if_false]at h⊢;have:=ih h;exact⟨by rw[this.1],this.2⟩
def a3q(l:List UInt8):List (List UInt8):=a0l 32 (l.count 32) l
theorem aa5(l:List UInt8):a3q l=if (a09 l).2.2 then (a09 l).1::a3q (a09 l).2.1 else [(a09 l).1]:=by
 unfold a3q;rw[aa4];cases h:(a09 l).2.2 with
 |true=>
  have:=a5j l ((a09 l).2.1.count 32);rw[h]at this;simpa using this
 |false=>
  rw[(a60 h).1];simp[a1p]
theorem adq(s:ByteArray):splitA 32 s=(a3q s.data.toList).map bsB:=rfl
theorem aim(l:List UInt8):a3q l≠[]:=a5V _ _ _
theorem aeZ(l:List UInt8):Lib.join (a3q l) [32]=l:=a4M _ _ _
theorem af0(l:List UInt8):a0x ((a3q l).map bsB)=bsB l:=by
 unfold a0x;rw[apx,show ((fun x:ByteArray=>x.data.toList)∘bsB)=id from rfl,List.map_id,aeZ]
def a2z(x:UInt8):Bool:=decide (48<=x.toNat)&&decide (x.toNat<=57)
def a2E(l:List UInt8):Nat:=l.foldl (fun a x=>a * 10+(x.toNat-48)) 0
def a0A(l:List UInt8)(k:Nat):Option Nat:=
 if l.length<1\/k<l.length\/(1<l.length/\l.headD 0=48)then none else if l.all a2z then some (a2E l)else none
def a26(l:List UInt8):Option Int:=match l with
 |45::r=>match a0A r 4 with
  |some n=>if 0<n then some (-(n:Int))else none
  |none=>none
 |_=>(a0A l 4).map fun n:Nat=>(n:Int)
theorem ac3(l:List UInt8)(x:UInt8):a2E (l++[x])=a2E l * 10+(x.toNat-48):=by unfold a2E;rw[apl];rfl
theorem adr:∀(l:List UInt8) (a:Nat),l.all a2z=true->l.foldl (fun a x=>a * 10+(x.toNat-48)) a<(a+1) * 10^l.length
 |[],a,_=>by simp
 |x::l,a,h=>by
  simp only[List.all_cons,Bool.and_eq_true]at h;have hx:48<=x.toNat/\x.toNat<=57:=by have:=h.1;unfold a2z at this;simpa using this
  have ih:=adr l (a * 10+(x.toNat-48)) h.2;rw[apv,aom,Nat.pow_succ];have hp:(a * 10+(x.toNat-48)+1) * 10^l.length<=((a+1) * 10) * 10^l.length:=apC _ om;have e:(a+1) * (10^l.length * 10)=((a+1) * 10) * 10^l.length:=by rw[aq9 (10^l.length) 10,<-Nat.mul_assoc]
  omega
theorem afP{l:List UInt8}(h:l.all a2z=true):a2E l<10^l.length:=by
 have:=adr l 0 h;rw[ap5,Nat.one_mul]at this;exact this
theorem ads:∀(l:List UInt8) (a:Nat),a<=l.foldl (fun a x=>a * 10+(x.toNat-48)) a
 |[],a=>aof _
 |x::l,a=>by rw[apv];exact aor om (ads l _)
theorem a7E:∀(n:Nat) (l:List UInt8),l.length=n->l.all a2z=true->l≠[]->(l.length=1\/l.headD 0≠48)->Lib.decDigits (a2E l)=l
 |0,l,hn,_,h0,_=>absurd (aoz.1 hn) h0
 | n+1,l,hn,h,h0,hz=>by
  obtain⟨r,x,rfl⟩:∃r x,l=r++[x]:=⟨l.dropLast,l.getLast h0,(List.dropLast_concat_getLast h0).symm⟩
  rw[List.all_append,Bool.and_eq_true]at h;have hx:48<=x.toNat/\x.toNat<=57:=by have:=h.2;unfold a2z at this;simpa using this
  have ex:UInt8.ofNat (48+(x.toNat-48))=x:=by
   rw[show 48+(x.toNat-48)=x.toNat by omega];simp
  rw[ac3];by_cases hr:r=[]
  ·subst hr;rw[show a2E []=0 from rfl,Lib.decDigits_one om,Nat.zero_mul,ap5,ex];rfl
  have hd:(r++[x]).headD 0=r.headD 0:=by cases r with|nil=>exact absurd rfl hr|cons a t=>rfl
  have hne:r.headD 0≠48:=by
   rcases hz with hz|hz
   ·rw[aol,apu]at hz;exact absurd (aoz.1 om) hr
   rw[<-hd];exact hz
  have hrv:1<=a2E r:=by
   cases r with
   |nil=>exact absurd rfl hr
   |cons a t=>
    have ha:a2z a=true:=by have:=h.1;simp only[List.all_cons,Bool.and_eq_true]at this;exact this.1
    have ha2:48<=a.toNat/\a.toNat<=57:=by unfold a2z at ha;simpa using ha
    have hne2:a.toNat≠48:=fun e=>hne (by simp only[List.headD_cons];exact UInt8.toNat_inj.1 e);have:=ads t (0 * 10+(a.toNat-48));unfold a2E;rw[apv];omega
  rw[Lib.decDigits,dif_neg om,show (a2E r * 10+(x.toNat-48)) / 10=a2E r by omega,show (a2E r * 10+(x.toNat-48)) % 10=x.toNat-48 by omega,ex,
   a7E n r (by simpa using hn) h.1 hr (.inr hne)]
theorem a7T{l:List UInt8}{k n:Nat}(h:a0A l k=some n):l=Lib.decDigits n/\n<10^k/\l.length<=k:=by
 unfold a0A at h;split at h
 ·cases h
 rename_i hc
 split at h
 ·rename_i ha
  simp only[Option.some.injEq]at h;subst h;have hl:l≠[]:=by rintro rfl;simp at hc
  refine⟨(a7E _ l rfl ha hl ?_).symm,aox (afP ha) (Nat.pow_le_pow_right ox om),om⟩;by_cases h1:l.length=1
  ·exact .inl h1
  exact .inr fun h2=>hc (.inr (.inr ⟨by have:=apE.2 hl;omega,h2⟩))
 cases h
theorem abr{u:Nat}(h:10<=u):(Lib.decDigits u).headD 0≠48:=by
 induction u using Nat.strongRecOn with
 | _ u ih=>
  rw[Lib.decDigits,dif_neg om]
  have hd:(Lib.decDigits (u / 10)++[UInt8.ofNat (48+u % 10)]).headD 0=(Lib.decDigits (u / 10)).headD 0:=by
   cases hq:Lib.decDigits (u / 10)with
   |nil=>exact absurd hq (a3o _)
   |cons a t=>rfl
  rw[hd];by_cases h2:10<=u / 10
  ·exact ih (u / 10) om h2
  rw[Lib.decDigits_one om];intro e;have:(UInt8.ofNat (48+u / 10)).toNat=(48:UInt8).toNat:=by rw[show UInt8.ofNat (48+u / 10)=48 from e]
  rw[UInt8.toNat_ofNat']at this;have h48:(48:UInt8).toNat=48:=rfl
  omega
theorem abt{n k:Nat}(h:n<10^(k+1)):a0A (Lib.decDigits n) (k+1)=some n:=by
 unfold a0A;have hl:(Lib.decDigits n).length<=k+1:=by rw[Lib.decDigits_length];exact nDigits_le k n h
 have hp:1<=(Lib.decDigits n).length:=apE.2 (a3o n)
 have hc:¬((Lib.decDigits n).length<1\/k+1<(Lib.decDigits n).length\/(1<(Lib.decDigits n).length/\(Lib.decDigits n).headD 0=48)):=by
  rintro(h1|h1|⟨h1,h2⟩)
  ·omega
  ·omega
  by_cases h10:n<10
  ·rw[Lib.decDigits_one h10]at h1;simp at h1
  exact abr om h2
 rw[if_neg hc,if_pos]
 ·exact congrArg some (a9p n)
 rw[ap6];intro x hx;have:=a2h n x hx;unfold a2z;simp[this]
theorem ain{n:Int}(h0: -9999<=n)(h1:n<=9999):Lib.atoiAll (Lib.itoa n)= .ok n:=by
 by_cases hn:0<=n
 ·obtain⟨u,rfl⟩:=aoH hn;exact adp u om
 obtain⟨u,rfl⟩:∃u:Nat,n= -(u:Int):=⟨n.natAbs,om⟩
 have hi:Lib.itoa (-(u:Int))=45::Lib.decDigits u:=by
  unfold Lib.itoa;rw[if_pos om,show (-(u:Int)).natAbs=u by omega]
 have hl:(Lib.decDigits u).length<=4:=by rw[Lib.decDigits_length];exact nDigits_le 3 u om
 have hm:Lib.parseMag (Lib.decDigits u)= .ok u:=by
  unfold Lib.parseMag
  rw[if_neg (a3o u),a7R _ 0 (a2h u) (by
   have:10^(Lib.decDigits u).length<=10^4:=Nat.pow_le_pow_right ox hl
   rw[Nat.zero_mul,ap5];exact aor this ox),a9p u]
 rw[hi];have n3:(45:UInt8).toNat=45:=rfl
 unfold Lib.atoiAll;simp only[n3,or_true,if_true,hm,not_true,false_and,if_false,true_and];rw[if_neg om]
theorem akE(s:ByteArray)(v:Int):a0d s=some v↔s=itoaB v/\ -9999<=v/\v<=9999:=by
 refine⟨a4c,fun⟨h1,h2,h3⟩=>?_⟩;unfold a0d;rw[show s.data.toList=Lib.itoa v by rw[h1];rfl,ain h2 h3];simp only;rw[if_pos (by rw[Bool.and_eq_true,decide_eq_true_eq,betw_iff];exact⟨h1.symm,h2,h3⟩)]
theorem akF(u:Nat):∀r,Lib.decDigits u≠45::r:=fun r h=>by
 have:=a2h u 45 (by rw[h];simp);simp at this
theorem a7U{l:List UInt8}{v:Int}(h:a26 l=some v):l=Lib.itoa v/\ -9999<=v/\v<=9999:=by
 unfold a26 at h;split at h
 ·rename_i r
  split at h
  ·rename_i n hn
   split at h
   ·simp only[Option.some.injEq]at h;subst h;obtain⟨h1,h2,_⟩:=a7T hn;refine⟨?_,om,om⟩;unfold Lib.itoa;rw[if_pos om,show (-(n:Int)).natAbs=n by omega,<-h1]
   cases h
  cases h
 cases hn:a0A l 4 with
 |none=>rw[hn]at h;cases h
 |some n=>
  rw[hn]at h;simp only[Option.map_some,Option.some.injEq]at h;subst h;obtain⟨h1,h2,_⟩:=a7T hn;refine⟨?_,om,om⟩;unfold Lib.itoa;rw[if_neg om,aoY,<-h1]
theorem amp{v:Int}(h0: -9999<=v)(h1:v<=9999):a26 (Lib.itoa v)=some v:=by
 by_cases hn:0<=v
 ·obtain⟨u,rfl⟩:=aoH hn;have hi:Lib.itoa (u:Int)=Lib.decDigits u:=by unfold Lib.itoa;rw[if_neg om,aoY]
  rw[hi];unfold a26;split
  ·rename_i r hr;exact absurd hr (akF u r)
  rw[abt (k:=3) om];rfl
 obtain⟨u,rfl⟩:∃u:Nat,v= -(u:Int):=⟨v.natAbs,om⟩
 have hi:Lib.itoa (-(u:Int))=45::Lib.decDigits u:=by
  unfold Lib.itoa;rw[if_pos om,show (-(u:Int)).natAbs=u by omega]
 rw[hi];unfold a26;simp only;rw[abt (k:=3) om];simp only;rw[if_pos om]
theorem a6V(s:ByteArray):a26 s.data.toList=a0d s:=by
 cases h:a0d s with
 |some v=>
  obtain⟨h1,h2,h3⟩:=a4c h;rw[h1];exact amp h2 h3
 | none=>
  cases h2:a26 s.data.toList with
  |none=>rfl
  |some v=>
   obtain⟨k1,k2,k3⟩:=a7U h2;have:=(akE s v).2 ⟨ba_ext k1,k2,k3⟩
   rw[h]at this;cases this
def a2N(line:ByteArray):Option Cmd:=
 let c1:=a09 line.data.toList
 let c2:=a09 c1.2.1
 if a0n line=false\/a03 (bsB c2.1)=false then none
 else if bsB c1.1=putW then (if c2.2.1=[]then none else some (.put (bsB c2.1) (bsB c2.2.1)))
 else if bsB c1.1=dropW then (if c2.2.2 then none else some (.drop (bsB c2.1)))
 else if bsB c1.1=addW then (match a26 c2.2.1 with
  |some n=>some (.add (bsB c2.1) n)
  |none=>none)
 else none
def a6W(line:ByteArray):Option Cmd:=match a08 line with
 |some c=>if c.deed then some c else none
 |none=>none
theorem a9q{w:ByteArray}{rest:List ByteArray}{c:Cmd}(h:a2j w rest=some c):c.deed=false:=by
 unfold a2j at h;split at h
 ·cases h
 split at h
 ·cases h
 split at h
 ·cases h;rfl
 cases h
theorem agw:a09 []=([],[],false):=rfl
theorem aio{l:List UInt8}{v:Int}(h:a26 l=some v):(32:UInt8)∉l:=by rw[(a7U h).1];exact a4X v
theorem aip{l:List UInt8}(h:(32:UInt8)∉l):a3q l=[l]:=by unfold a3q;rw[List.count_eq_zero.2 h,a1p]
theorem a9r{rs:List ByteArray}{n:Int}(h:allS a0d rs=some [n]):∃r,rs=[r]/\a0d r=some n:=by
 have hl:=allS_len _ _ _ h;match rs,hl with
 |[r],_=>
  refine⟨r,rfl,?_⟩;unfold allS at h;cases h4:a0d r with
  |none=>simp[h4]at h
  |some v=>simpa [h4,allS]using h
theorem aiq (line:ByteArray):a2N line=a6W line:=by
 cases hline:a0n line with
 | false=>
  have h1:a2N line=none:=by unfold a2N;simp[hline]
  rw[h1];unfold a6W;cases hp:a08 line with
  |none=>rfl
  |some c=>
   cases hd:c.deed with
   |false=>simp[hd]
   |true=>rw[a4d hp hd]at hline;cases hline
 | true =>
  unfold a2N a6W a08;simp only;rw[adq,aa5];cases hm:(a09 line.data.toList).2.2 with
  |false=>
   rw[(a60 hm).2,agw];simp only[Bool.false_eq_true,if_false,aoJ,List.map_nil];have:a03 (bsB [])=false:=by decide
   rw[this];simp
  | true=>
   simp only[if_true];generalize hw:(a09 line.data.toList).1=w
   generalize hr:(a09 line.data.toList).2.1=rest
   clear hw hr hm;rw[aoJ,aa5 rest];obtain⟨rs,hrs⟩:∃rs,rs=if (a09 rest).2.2 then (a3q (a09 rest).2.1).map bsB else []:=⟨_,rfl⟩
   have e1:(if (a09 rest).2.2=true then (a09 rest).1::a3q (a09 rest).2.1 else [(a09 rest).1]).map bsB=bsB (a09 rest).1::rs:=by
    rw[hrs];cases (a09 rest).2.2<;>simp
   have e2:a0x rs=bsB (a09 rest).2.1:=by
    rw[hrs];cases hm2:(a09 rest).2.2 with
    |true=>exact af0 _
    |false=>rw[(a60 hm2).2];rfl
   have e3:rs=[]↔(a09 rest).2.2=false:=by
    rw[hrs];cases hm2:(a09 rest).2.2 with
    |true=>simp[aim]
    |false=>simp
   have e4:(a09 rest).2.2=false->(a09 rest).2.1=[]:=fun h=>(a60 h).2
   rw[e1];generalize hn:(a09 rest).1=name at *
   generalize ha:(a09 rest).2.1=args at *
   generalize hm2:(a09 rest).2.2=more at *
   clear hn ha hm2 e1;show _=match a0Y (bsB w) (bsB name) rs line with|some c=>if c.deed then some c else none|none=>none
   unfold a0Y;rw[e2,hline];simp only[Bool.true_eq_false,false_or,Bool.and_true];cases hnm:a03 (bsB name)with
   | false=>
    simp only[if_true,Bool.false_and,Bool.and_false,Bool.false_eq_true,if_false];split
    ·rename_i c hc
     split at hc
     ·cases hc
     split at hc
     ·cases hc
     split at hc
     ·cases hc
     split at hc
     ·split at hc<;>cases hc
     split at hc
     ·split at hc
      ·split at hc
       ·cases hc;rfl
       cases hc
      cases hc
     rw[a9q hc];rfl
    rfl
   | true=>
    simp only[Bool.true_eq_false,if_false,Bool.true_and,Bool.and_true];by_cases h1:bsB w=putW
    ·rw[if_pos h1,if_pos h1];rw[a1t];cases args<;>simp[Cmd.deed]
    rw[if_neg h1,if_neg h1];by_cases h2:bsB w=dropW
    ·rw[if_pos h2,if_pos h2];by_cases h3:rs=[]
     ·rw[decide_eq_true h3,e3.1 h3];simp[Cmd.deed]
     have:more=true:=by cases more<;>simp_all
     rw[decide_eq_false h3,this];simp
    rw[if_neg h2,if_neg h2];by_cases h3:bsB w=addW
    ·have hns:bsB w≠stockW:=by rw[h3];decide
     rw[if_pos h3,if_neg hns,if_pos h3];cases hv:a26 args with
     | some n=>
      have hrs1:rs=[bsB args]:=by
       rw[hrs];cases more with
       |false=>
        rw[e4 rfl]at hv;cases hv
       |true=>rw[if_pos rfl,aip (aio hv)];rfl
      have hn:=a6V (bsB args);rw[a1t,hv]at hn;rw[hrs1];simp[allS,<-hn,Cmd.deed]
     | none=>
      simp only;split
      ·rename_i c hc
       split at hc
       ·rename_i n hn
        obtain⟨r,hr,hnr⟩:=a9r hn;have:a0x rs=r:=by rw[hr,a5W]
        rw[e2]at this;rw[<-this,<-a6V,a1t,hv]at hnr;cases hnr
       cases hc
      rfl
    rw[if_neg h3];split
    ·rename_i c hc
     split at hc
     ·split at hc
      ·cases hc;rfl
      cases hc
     split at hc
     ·split at hc
      ·split at hc
       ·cases hc;rfl
       cases hc
      cases hc
     rw[a9q hc];rfl
    rfl
end Go.Proofs.YtdfkaijeppdhaaaGreatDoor
