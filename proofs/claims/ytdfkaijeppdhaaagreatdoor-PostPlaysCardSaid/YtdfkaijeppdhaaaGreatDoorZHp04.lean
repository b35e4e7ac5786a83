/- Texts of this claim, laid together: Pm, Rf. -/
import Derived.Test.YtdfkaijeppdhaaaGreatDoorZHp01
import Derived.Test.YtdfkaijeppdhaaaGreatDoorZHp03
import Derived.Lib.AppendIntMem
import Derived.KernelRfl

set_option maxRecDepth 100000
set_option maxHeartbeats 8000000
set_option linter.unusedSimpArgs false
set_option linter.unusedVariables false

namespace Go.Proofs.YtdfkaijeppdhaaaGreatDoor
open Go.RowKit Go.Shelf
structure Vars(w:World):Prop where
 ml:∃m,w.cell? ⟨0,0,none⟩=some (.int .i64 m)
 tab:Lib.TabIs Tryz.prog w "internal/strconv.uint64pow10" .u64 Lib.pow10Tab
 es:∃ev,w.cell? ⟨2,0,none⟩=some ev/\(ev= .nilIface\/∃te pe,ev= .iface te pe)
 er:∃ev,w.cell? ⟨3,0,none⟩=some ev/\(ev= .nilIface\/∃te pe,ev= .iface te pe)
def a1p(k:Nat):Prop:=k=0\/k=1\/k=2\/k=3
theorem adx{n:String}{g:Nat}{k:IntKind}{zs:List Int}{w w':World}(hg:Tryz.prog.globalNamed n=some g)(h:Lib.TabIs Tryz.prog w n k zs)(hk:w'.heap[g]? =w.heap[g]?):Lib.TabIs Tryz.prog w' n k zs:=by
 unfold Lib.TabIs World.var? at h⊢;rw[hg]at h⊢;simp only[Option.bind_some]at h⊢;rw[hk];exact h
theorem ahi{n:String}{g:Nat}{k:IntKind}{zs:List Int}{w:World}(hg:Tryz.prog.globalNamed n=some g)(h:Lib.TabIs Tryz.prog w n k zs):g<w.heap.size:=by
 unfold Lib.TabIs World.var? at h;rw[hg]at h;simp only[Option.bind_some]at h;rcases Nat.lt_or_ge g w.heap.size with h'|h'
 ·exact h'
 rw[Array.getElem?_eq_none h']at h;cases h
theorem Vars.lt{w:World}(h:Vars w){k:Nat}(hk:a1p k):k<w.heap.size:=by
 obtain⟨_,h0⟩:=h.ml;obtain⟨_,h1,_⟩:=h.es;obtain⟨_,h2,_⟩:=h.er;rcases hk with rfl|rfl|rfl|rfl
 ·exact World.block_lt_of_cell? _ _ h0
 ·exact ahi (g:=1) (by kernel_rfl) h.tab
 ·exact World.block_lt_of_cell? _ _ h1
 exact World.block_lt_of_cell? _ _ h2
theorem Vars.keep{w w':World}(h:Vars w)(hk:∀k,a1p k->w'.heap[k]? =w.heap[k]?):Vars w':=by
 obtain⟨m,h0⟩:=h.ml;obtain⟨e1,h1,k1⟩:=h.es;obtain⟨e2,h2,k2⟩:=h.er
 exact⟨⟨m,(World.cell?_of_block (hk _ (.inl rfl))).trans h0⟩,adx (g:=1) (by kernel_rfl) h.tab (hk _ (.inr (.inl rfl))),
  ⟨e1,(World.cell?_of_block (hk _ (.inr (.inr (.inl rfl))))).trans h1,k1⟩,⟨e2,(World.cell?_of_block (hk _ (.inr (.inr (.inr rfl))))).trans h2,k2⟩⟩
theorem Vars.below{w w':World}(h:Vars w)(hb:Below w.heap.size w w'):Vars w':=h.keep fun k hk=>hb.block k (h.lt hk)
structure Pst where
 P:Nat
 F:List Nat
 n:Nat
 b:Book
structure Posts(w:World)(m:Nat)(ps:Nat->Pst):Prop where
 vars:Vars w
 post:∀i,i<m->PostAt w (ps i).P (ps i).F (ps i).n (ps i).b
 apart:∀i j,i<m->j<m->i≠j->∀k∈(ps i).F,k∉(ps j).F
 free:∀i,i<m->∀k∈(ps i).F,¬a1p k
def setS(ps:Nat->Pst)(j:Nat)(p:Pst):Nat->Pst:=fun k=>if k=j then p else ps k
theorem a0F(ps:Nat->Pst)(j:Nat)(p:Pst):setS ps j p j=p:=by simp[setS]
theorem a0n(ps:Nat->Pst){j k:Nat}(p:Pst)(h:k≠j):setS ps j p k=ps k:=by simp[setS,h]
def a2y(w:World)(G F:List Nat):Prop:=∀k∈F,k∈G\/w.heap.size<=k
theorem Posts.nil{w:World}(hv:Vars w)(ps:Nat->Pst):Posts w 0 ps:=⟨hv,fun i h=>by omega,fun i j h=>by omega,fun i h=>by omega⟩
theorem Posts.lt{w:World}{m:Nat}{ps:Nat->Pst}(h:Posts w m ps){i:Nat}(hi:i<m){k:Nat}(hk:k∈(ps i).F):k<w.heap.size:=(h.post i hi).lt hk
theorem Posts.keep{w w':World}{m:Nat}{ps:Nat->Pst}(h:Posts w m ps)(hv:∀k,a1p k->w'.heap[k]? =w.heap[k]?)(hk:∀i,i<m->∀k∈(ps i).F,w'.heap[k]? =w.heap[k]?):Posts w' m ps:=
 ⟨h.vars.keep hv,fun i hi=>(h.post i hi).keep (hk i hi),h.apart,h.free⟩
theorem Posts.below{w w':World}{m:Nat}{ps:Nat->Pst}(h:Posts w m ps)(hb:Below w.heap.size w w'):Posts w' m ps:=
 h.keep (fun k hk=>hb.block k (h.vars.lt hk)) fun _ hi k hk=>hb.block k (h.lt hi hk)
theorem Posts.turn{w w':World}{m:Nat}{ps:Nat->Pst}(h:Posts w m ps){i:Nat}(hi:i<m){p:Pst}(hp:PostAt w' p.P p.F p.n p.b)(hF:a2y w (ps i).F p.F)(ho:Off (ps i).F w w'):Posts w' m (setS ps i p):=by
 refine⟨h.vars.keep fun k hk=>ho.block k (h.vars.lt hk) fun hm=>h.free i hi k hm hk,fun j hj=>?_,fun a c ha hc hac k hk=>?_,fun j hj k hk=>?_⟩
 ·by_cases e:j=i
  ·subst e;rw[a0F];exact hp
  rw[a0n _ _ e];exact(h.post j hj).off ho (h.apart j i hj hi e)
 ·by_cases ea:a=i
  ·subst ea;rw[a0F]at hk;rw[a0n _ _ (Ne.symm hac)];intro hk2;rcases hF k hk with h1|h1
   ·exact h.apart a c ha hc hac k h1 hk2
   have:=h.lt hc hk2;omega
  rw[a0n _ _ ea]at hk;by_cases ec:c=i
  ·subst ec;rw[a0F];intro hk2;rcases hF k hk2 with h1|h1
   ·exact h.apart a c ha hc hac k hk h1
   have:=h.lt ha hk;omega
  rw[a0n _ _ ec];exact h.apart a c ha hc hac k hk
 by_cases e:j=i
 ·subst e;rw[a0F]at hk;rcases hF k hk with h1|h1
  ·exact h.free j hj k h1
  intro hv;have:=h.vars.lt hv;omega
 rw[a0n _ _ e]at hk;exact h.free j hj k hk
theorem Posts.grow{w w':World}{m:Nat}{ps:Nat->Pst}(h:Posts w m ps){p:Pst}(hp:PostAt w' p.P p.F p.n p.b)(hF:a2y w [] p.F)(hb:Below w.heap.size w w'):Posts w' (m+1) (setS ps m p):=by
 have hnew:∀k∈p.F,w.heap.size<=k:=fun k hk=>(hF k hk).resolve_left (by simp)
 refine⟨h.vars.below hb,fun j hj=>?_,fun a c ha hc hac k hk=>?_,fun j hj k hk=>?_⟩
 ·by_cases e:j=m
  ·subst e;rw[a0F];exact hp
  rw[a0n _ _ e];exact(h.post j (by omega)).below hb
 ·by_cases ea:a=m
  ·subst ea;rw[a0F]at hk;rw[a0n _ _ (Ne.symm hac)];intro hk2;have:=h.lt (by omega) hk2;have:=hnew k hk;omega
  rw[a0n _ _ ea]at hk;by_cases ec:c=m
  ·subst ec;rw[a0F];intro hk2;have:=h.lt (by omega) hk;have:=hnew k hk2;omega
  rw[a0n _ _ ec];exact h.apart a c (by omega) (by omega) hac k hk
 by_cases e:j=m
 ·subst e;rw[a0F]at hk;intro hv;have:=h.vars.lt hv;have:=hnew k hk;omega
 rw[a0n _ _ e]at hk;exact h.free j (by omega) k hk
end Go.Proofs.YtdfkaijeppdhaaaGreatDoor
namespace Go.Proofs.YtdfkaijeppdhaaaGreatDoor
open Go
def a3S(s:ByteArray):Option Int:=match Lib.atoiAll s.data.toList with
 | .ok v=>some v
 |_=>none
def follows(b:Book)(e:Ent):Bool:=betw 0 (a04 e) 3&&betw 1 (eCnt e) 1000000&&a0g (a05 e)&&
 decide (eNum e=((b (a04 e).toNat).length:Int)+1)&&decide ((b (a04 e).toNat).length≠60)&&(decide ((b (a04 e).toNat).length=0)||decide (a0k (b (a04 e).toNat)<eCnt e))
theorem a2E(b:Book)(e:Ent):follows b e=true↔0<=a04 e/\a04 e<=3/\1<=eCnt e/\eCnt e<=1000000/\a0g (a05 e)=true/\eNum e=((b (a04 e).toNat).length:Int)+1/\(b (a04 e).toNat).length≠60/\((b (a04 e).toNat).length=0\/a0k (b (a04 e).toNat)<eCnt e):=by
 unfold follows;simp only[Bool.and_eq_true,Bool.or_eq_true,decide_eq_true_eq,betw_iff,and_assoc]
theorem afa(n:Int):(32:UInt8)∉Lib.itoa n:=fun h=>by have:=a9p n _ h;simp at this
theorem a5X:∀(l:List UInt8) (acc:Nat),(∀x∈l,48<=x.toNat/\x.toNat<=57)->acc * 10^l.length+10^l.length<=1000000000000000000->Lib.parseUint10 acc l= .ok (l.foldl (fun a x=>a * 10+(x.toNat-48)) acc)
 |[],_,_,_=>rfl
 | c::r,acc,h,hs=>by
  have hc:=h c (by simp);have hp:1<=10^r.length:=Nat.one_le_pow _ _ (by decide);have e1:acc * 10^(r.length+1)=acc * 10 * 10^r.length:=by rw[Nat.pow_succ,Nat.mul_comm (10^r.length) 10,<-Nat.mul_assoc]
  have e2:10^(r.length+1)=10 * 10^r.length:=by rw[Nat.pow_succ,Nat.mul_comm]
  rw[List.length_cons,e1,e2]at hs;have b1:acc * 10<=acc * 10 * 10^r.length:=Nat.le_mul_of_pos_right _ hp
  have e3:(acc * 10+(c.toNat-48)) * 10^r.length+10^r.length<=acc * 10 * 10^r.length+10 * 10^r.length:=by
   have:(c.toNat-48+1) * 10^r.length<=10 * 10^r.length:=Nat.mul_le_mul_right _ (by omega);rw[Nat.add_mul,Nat.one_mul]at this;rw[Nat.add_mul];omega
  unfold Lib.parseUint10;rw[if_pos hc,if_neg (by omega),if_neg (by omega),a5X r _ (fun x hx=>h x (by simp[hx])) (by omega)];rfl
theorem a7j(u:Nat):(Lib.decDigits u).foldl (fun a x=>a * 10+(x.toNat-48)) 0=u:=by
 induction u using Nat.strongRecOn with
 |_ u ih=>
  rw[Lib.decDigits];split
  ·simp only[List.foldl_cons,List.foldl_nil,UInt8.toNat_ofNat'];omega
  rw[List.foldl_append,ih (u / 10) (by omega)];simp only[List.foldl_cons,List.foldl_nil,UInt8.toNat_ofNat'];omega
theorem ahj(u:Nat)(h:u<10000000000):Lib.atoiAll (Lib.itoa (u:Int))= .ok (u:Int):=by
 have hi:Lib.itoa (u:Int)=Lib.decDigits u:=by unfold Lib.itoa;rw[if_neg (by omega),Int.toNat_natCast]
 have hl:(Lib.decDigits u).length<=10:=by rw[Lib.decDigits_length];exact nDigits_le 9 u (by omega)
 have hb:=a1v u;have hf:=a7j u
 have hm:Lib.parseMag (Lib.decDigits u)= .ok u:=by
  unfold Lib.parseMag
  rw[if_neg (a2g u),a5X _ 0 hb (by
   have:10^(Lib.decDigits u).length<=10^10:=Nat.pow_le_pow_right (by decide) hl
   rw[Nat.zero_mul,Nat.zero_add];exact Nat.le_trans this (by decide)),hf]
 rw[hi];cases hd:Lib.decDigits u with
 |nil=>exact absurd hd (a2g u)
 |cons c r=>
  have hc:=hb c (by rw[hd];simp);rw[hd]at hm;have n1:¬c.toNat=43:=by omega
  have n2:¬c.toNat=45:=by omega
  unfold Lib.atoiAll;simp only[n1,n2,or_self,if_false,not_false_eq_true,true_and,false_and];rw[hm];simp only;rw[if_neg (by omega)]
theorem a0Z{b:Book}(hb:a08 b){e:Ent}(h:e∈allB b):(0<=a04 e/\a04 e<=3)/\(1<=eNum e/\eNum e<=60)/\(1<=eCnt e/\eCnt e<=1000000)/\a4n (a05 e)=true:=by
 obtain⟨i,hi,hm⟩:=ahf h;obtain⟨j,hj,rfl⟩:=List.getElem_of_mem hm;obtain⟨h1,h2,h3,h4,h5⟩:=(hb i hi).own j hj
 have:=(hb i hi).len
 exact⟨by omega,by omega,⟨h3,h4⟩,h5⟩
end Go.Proofs.YtdfkaijeppdhaaaGreatDoor
namespace Go.Proofs.YtdfkaijeppdhaaaGreatDoor
open Go
def cutR:List UInt8->List UInt8×List UInt8×Bool
 |[]=>([],[],false)
 |b::r=>if b==32 then ([],r,true)else (b::(cutR r).1,(cutR r).2.1,(cutR r).2.2)
theorem a3T:∀(l:List UInt8) (k:Nat),a0j 32 (k+1) l=if (cutR l).2.2 then (cutR l).1::a0j 32 k (cutR l).2.1 else [(cutR l).1]
 |[],k=>rfl
 |b::r,k=>by
  by_cases hb:b=32
  ·subst hb;simp[a0j,cutR]
  have hbc:(b==32)=false:=by simpa using hb
  have ih:=a3T r k;simp only[a0j,cutR,hbc,Bool.false_eq_true,if_false];rw[ih];cases h:(cutR r).2.2<;>simp
theorem a7N:∀(l:List UInt8),l.count 32=if (cutR l).2.2 then (cutR l).2.1.count 32+1 else 0
 |[]=>rfl
 |b::r=>by
  by_cases hb:b=32
  ·subst hb;simp[cutR]
  have hbc:(b==32)=false:=by simpa using hb
  rw[List.count_cons_of_ne hb,a7N r];simp[cutR,hbc]
theorem a2U{l:List UInt8}(h:(cutR l).2.2=false):(cutR l).1=l/\(cutR l).2.1=[]:=by
 induction l with
 |nil=>exact⟨rfl,rfl⟩
 |cons b r ih=>
  by_cases hb:b=32
  ·subst hb;simp[cutR]at h
  have hbc:(b==32)=false:=by simpa using hb
  simp only[cutR,hbc,Bool.false_eq_true,if_false]at h⊢;have:=ih h;exact⟨by rw[this.1],this.2⟩
theorem aaC{l:List UInt8}(h:(cutR l).2.2=true):l=(cutR l).1++32::(cutR l).2.1:=by
 induction l with
 |nil=>simp[cutR]at h
 |cons b r ih=>
  by_cases hb:b=32
  ·subst hb;simp[cutR]
  have hbc:(b==32)=false:=by simpa using hb
  simp only[cutR,hbc,Bool.false_eq_true,if_false]at h⊢;rw[List.cons_append,<-ih h]
def a2i(l:List UInt8):List (List UInt8):=a0j 32 (l.count 32) l
theorem a7O(l:List UInt8):a2i l=if (cutR l).2.2 then (cutR l).1::a2i (cutR l).2.1 else [(cutR l).1]:=by
 unfold a2i;rw[a7N];cases h:(cutR l).2.2 with
 |true=>
  have:=a3T l ((cutR l).2.1.count 32);rw[h]at this;simpa using this
 |false=>
  rw[(a2U h).1];simp[a27]
theorem aaD(s:ByteArray):splitA 32 s=(a2i s.data.toList).map bsB:=rfl
theorem afb(l:List UInt8):a2i l≠[]:=a4o _ _ _
theorem aca(l:List UInt8):Lib.join (a2i l) [32]=l:=a3u _ _ _
theorem acb(l:List UInt8):a0i ((a2i l).map bsB)=bsB l:=by
 unfold a0i;rw[List.map_map,show ((fun x:ByteArray=>x.data.toList)∘bsB)=id from rfl,List.map_id,aca]
def a1q(x:UInt8):Bool:=decide (48<=x.toNat)&&decide (x.toNat<=57)
def valD(l:List UInt8):Nat:=l.foldl (fun a x=>a * 10+(x.toNat-48)) 0
def natR(l:List UInt8)(k:Nat):Option Nat:=
 if l.length<1\/k<l.length\/(1<l.length/\l.headD 0=48)then none else if l.all a1q then some (valD l)else none
def numR(l:List UInt8):Option Int:=match l with
 |45::r=>match natR r 4 with
  |some n=>if 0<n then some (-(n:Int))else none
  |none=>none
 |_=>(natR l 4).map fun n:Nat=>(n:Int)
theorem a9u(l:List UInt8)(x:UInt8):valD (l++[x])=valD l * 10+(x.toNat-48):=by unfold valD;rw[List.foldl_append];rfl
theorem aaE:∀(l:List UInt8) (a:Nat),l.all a1q=true->l.foldl (fun a x=>a * 10+(x.toNat-48)) a<(a+1) * 10^l.length
 |[],a,_=>by simp
 |x::l,a,h=>by
  simp only[List.all_cons,Bool.and_eq_true]at h;have hx:48<=x.toNat/\x.toNat<=57:=by have:=h.1;unfold a1q at this;simpa using this
  have ih:=aaE l (a * 10+(x.toNat-48)) h.2;rw[List.foldl_cons,List.length_cons,Nat.pow_succ];have hp:(a * 10+(x.toNat-48)+1) * 10^l.length<=((a+1) * 10) * 10^l.length:=Nat.mul_le_mul_right _ (by omega);have e:(a+1) * (10^l.length * 10)=((a+1) * 10) * 10^l.length:=by rw[Nat.mul_comm (10^l.length) 10,<-Nat.mul_assoc]
  omega
theorem acQ{l:List UInt8}(h:l.all a1q=true):valD l<10^l.length:=by
 have:=aaE l 0 h;rw[Nat.zero_add,Nat.one_mul]at this;exact this
theorem aaF:∀(l:List UInt8) (a:Nat),a<=l.foldl (fun a x=>a * 10+(x.toNat-48)) a
 |[],a=>Nat.le_refl _
 |x::l,a=>by rw[List.foldl_cons];exact Nat.le_trans (by omega) (aaF l _)
theorem a5O:∀(n:Nat) (l:List UInt8),l.length=n->l.all a1q=true->l≠[]->(l.length=1\/l.headD 0≠48)->Lib.decDigits (valD l)=l
 |0,l,hn,_,h0,_=>absurd (List.length_eq_zero_iff.1 hn) h0
 | n+1,l,hn,h,h0,hz=>by
  obtain⟨r,x,rfl⟩:∃r x,l=r++[x]:=⟨l.dropLast,l.getLast h0,(List.dropLast_concat_getLast h0).symm⟩
  rw[List.all_append,Bool.and_eq_true]at h;have hx:48<=x.toNat/\x.toNat<=57:=by have:=h.2;unfold a1q at this;simpa using this
  have ex:UInt8.ofNat (48+(x.toNat-48))=x:=by
   rw[show 48+(x.toNat-48)=x.toNat by omega];simp
  rw[a9u];by_cases hr:r=[]
  ·subst hr;rw[show valD []=0 from rfl,Lib.decDigits_one (by omega),Nat.zero_mul,Nat.zero_add,ex];rfl
  have hd:(r++[x]).headD 0=r.headD 0:=by cases r with|nil=>exact absurd rfl hr|cons a t=>rfl
  have hne:r.headD 0≠48:=by
   rcases hz with hz|hz
   ·rw[List.length_append,List.length_singleton]at hz;exact absurd (List.length_eq_zero_iff.1 (by omega)) hr
   rw[<-hd];exact hz
  have hrv:1<=valD r:=by
   cases r with
   |nil=>exact absurd rfl hr
   |cons a t=>
    have ha:a1q a=true:=by have:=h.1;simp only[List.all_cons,Bool.and_eq_true]at this;exact this.1
    have ha2:48<=a.toNat/\a.toNat<=57:=by unfold a1q at ha;simpa using ha
    have hne2:a.toNat≠48:=fun e=>hne (by simp only[List.headD_cons];exact UInt8.toNat_inj.1 e);have:=aaF t (0 * 10+(a.toNat-48));unfold valD;rw[List.foldl_cons];omega
  rw[Lib.decDigits,dif_neg (by omega),show (valD r * 10+(x.toNat-48)) / 10=valD r by omega,show (valD r * 10+(x.toNat-48)) % 10=x.toNat-48 by omega,ex,
   a5O n r (by simpa using hn) h.1 hr (.inr hne)]
theorem a5Y{l:List UInt8}{k n:Nat}(h:natR l k=some n):l=Lib.decDigits n/\n<10^k/\l.length<=k:=by
 unfold natR at h;split at h
 ·cases h
 rename_i hc
 split at h
 ·rename_i ha
  simp only[Option.some.injEq]at h;subst h;have hl:l≠[]:=by rintro rfl;simp at hc
  refine⟨(a5O _ l rfl ha hl ?_).symm,Nat.lt_of_lt_of_le (acQ ha) (Nat.pow_le_pow_right (by decide) (by omega)),by omega⟩;by_cases h1:l.length=1
  ·exact .inl h1
  exact .inr fun h2=>hc (.inr (.inr ⟨by have:=List.length_pos_iff.2 hl;omega,h2⟩))
 cases h
theorem a8Z{u:Nat}(h:10<=u):(Lib.decDigits u).headD 0≠48:=by
 induction u using Nat.strongRecOn with
 | _ u ih=>
  rw[Lib.decDigits,dif_neg (by omega)]
  have hd:(Lib.decDigits (u / 10)++[UInt8.ofNat (48+u % 10)]).headD 0=(Lib.decDigits (u / 10)).headD 0:=by
   cases hq:Lib.decDigits (u / 10)with
   |nil=>exact absurd hq (a2g _)
   |cons a t=>rfl
  rw[hd];by_cases h2:10<=u / 10
  ·exact ih (u / 10) (by omega) h2
  rw[Lib.decDigits_one (by omega)];intro e;have:(UInt8.ofNat (48+u / 10)).toNat=(48:UInt8).toNat:=by rw[show UInt8.ofNat (48+u / 10)=48 from e]
  rw[UInt8.toNat_ofNat']at this;have h48:(48:UInt8).toNat=48:=rfl
  omega
theorem acR{n k:Nat}(h:n<10^(k+1)):natR (Lib.decDigits n) (k+1)=some n:=by
 unfold natR;have hl:(Lib.decDigits n).length<=k+1:=by rw[Lib.decDigits_length];exact nDigits_le k n h
 have hp:1<=(Lib.decDigits n).length:=List.length_pos_iff.2 (a2g n)
 have hc:¬((Lib.decDigits n).length<1\/k+1<(Lib.decDigits n).length\/(1<(Lib.decDigits n).length/\(Lib.decDigits n).headD 0=48)):=by
  rintro(h1|h1|⟨h1,h2⟩)
  ·omega
  ·omega
  by_cases h10:n<10
  ·rw[Lib.decDigits_one h10]at h1;simp at h1
  exact a8Z (by omega) h2
 rw[if_neg hc,if_pos]
 ·exact congrArg some (a7j n)
 rw[List.all_eq_true];intro x hx;have:=a1v n x hx;unfold a1q;simp[this]
theorem afc{n:Int}(h0: -9999<=n)(h1:n<=9999):Lib.atoiAll (Lib.itoa n)= .ok n:=by
 by_cases hn:0<=n
 ·obtain⟨u,rfl⟩:=Int.eq_ofNat_of_zero_le hn;exact ahj u (by omega)
 obtain⟨u,rfl⟩:∃u:Nat,n= -(u:Int):=⟨n.natAbs,by omega⟩
 have hi:Lib.itoa (-(u:Int))=45::Lib.decDigits u:=by
  unfold Lib.itoa;rw[if_pos (by omega),show (-(u:Int)).natAbs=u by omega]
 have hl:(Lib.decDigits u).length<=4:=by rw[Lib.decDigits_length];exact nDigits_le 3 u (by omega)
 have hm:Lib.parseMag (Lib.decDigits u)= .ok u:=by
  unfold Lib.parseMag
  rw[if_neg (a2g u),a5X _ 0 (a1v u) (by
   have:10^(Lib.decDigits u).length<=10^4:=Nat.pow_le_pow_right (by decide) hl
   rw[Nat.zero_mul,Nat.zero_add];exact Nat.le_trans this (by decide)),a7j u]
 rw[hi];have n3:(45:UInt8).toNat=45:=rfl
 unfold Lib.atoiAll;simp only[n3,or_true,if_true,hm,not_true,false_and,if_false,true_and];rw[if_neg (by omega)]
theorem ahk(s:ByteArray)(v:Int):numV s=some v↔s=itoaB v/\ -9999<=v/\v<=9999:=by
 refine⟨a2h,fun⟨h1,h2,h3⟩=>?_⟩;unfold numV;rw[show s.data.toList=Lib.itoa v by rw[h1];rfl,afc h2 h3];simp only;rw[if_pos (by rw[Bool.and_eq_true,decide_eq_true_eq,betw_iff];exact⟨h1.symm,h2,h3⟩)]
theorem ahl(u:Nat):∀r,Lib.decDigits u≠45::r:=fun r h=>by
 have:=a1v u 45 (by rw[h];simp);simp at this
theorem a5Z{l:List UInt8}{v:Int}(h:numR l=some v):l=Lib.itoa v/\ -9999<=v/\v<=9999:=by
 unfold numR at h;split at h
 ·rename_i r
  split at h
  ·rename_i n hn
   split at h
   ·simp only[Option.some.injEq]at h;subst h;obtain⟨h1,h2,_⟩:=a5Y hn;refine⟨?_,by omega,by omega⟩;unfold Lib.itoa;rw[if_pos (by omega),show (-(n:Int)).natAbs=n by omega,<-h1]
   cases h
  cases h
 cases hn:natR l 4 with
 |none=>rw[hn]at h;cases h
 |some n=>
  rw[hn]at h;simp only[Option.map_some,Option.some.injEq]at h;subst h;obtain⟨h1,h2,_⟩:=a5Y hn;refine⟨?_,by omega,by omega⟩;unfold Lib.itoa;rw[if_neg (by omega),Int.toNat_natCast,<-h1]
theorem aiK{v:Int}(h0: -9999<=v)(h1:v<=9999):numR (Lib.itoa v)=some v:=by
 by_cases hn:0<=v
 ·obtain⟨u,rfl⟩:=Int.eq_ofNat_of_zero_le hn;have hi:Lib.itoa (u:Int)=Lib.decDigits u:=by unfold Lib.itoa;rw[if_neg (by omega),Int.toNat_natCast]
  rw[hi];unfold numR;split
  ·rename_i r hr;exact absurd hr (ahl u r)
  rw[acR (k:=3) (by omega)];rfl
 obtain⟨u,rfl⟩:∃u:Nat,v= -(u:Int):=⟨v.natAbs,by omega⟩
 have hi:Lib.itoa (-(u:Int))=45::Lib.decDigits u:=by
  unfold Lib.itoa;rw[if_pos (by omega),show (-(u:Int)).natAbs=u by omega]
 rw[hi];unfold numR;simp only;rw[acR (k:=3) (by omega)];simp only;rw[if_pos (by omega)]
theorem a4b(s:ByteArray):numR s.data.toList=numV s:=by
 cases h:numV s with
 |some v=>
  obtain⟨h1,h2,h3⟩:=a2h h;rw[h1];exact aiK h2 h3
 | none=>
  cases h2:numR s.data.toList with
  |none=>rfl
  |some v=>
   obtain⟨k1,k2,k3⟩:=a5Z h2;have:=(ahk s v).2 ⟨ba_ext k1,k2,k3⟩
   rw[h]at this;cases this
def a1L(line:ByteArray):Option Cmd:=
 let c1:=cutR line.data.toList
 let c2:=cutR c1.2.1
 if a0g line=false\/a01 (bsB c2.1)=false then none
 else if bsB c1.1=putW then (if c2.2.1=[]then none else some (.put (bsB c2.1) (bsB c2.2.1)))
 else if bsB c1.1=dropW then (if c2.2.2 then none else some (.drop (bsB c2.1)))
 else if bsB c1.1=addW then (match numR c2.2.1 with
  |some n=>some (.add (bsB c2.1) n)
  |none=>none)
 else none
def a5g(line:ByteArray):Option Cmd:=match a02 line with
 |some c=>if c.deed then some c else none
 |none=>none
theorem a7k{w:ByteArray}{rest:List ByteArray}{c:Cmd}(h:a1x w rest=some c):c.deed=false:=by
 unfold a1x at h;split at h
 ·cases h
 split at h
 ·cases h
 split at h
 ·cases h;rfl
 cases h
theorem ady:cutR []=([],[],false):=rfl
theorem afd{l:List UInt8}{v:Int}(h:numR l=some v):(32:UInt8)∉l:=by rw[(a5Z h).1];exact afa v
theorem afe{l:List UInt8}(h:(32:UInt8)∉l):a2i l=[l]:=by unfold a2i;rw[List.count_eq_zero.2 h,a27]
theorem a7l{rs:List ByteArray}{n:Int}(h:allS numV rs=some [n]):∃r,rs=[r]/\numV r=some n:=by
 have hl:=allS_len _ _ _ h;match rs,hl with
 |[r],_=>
  refine⟨r,rfl,?_⟩;unfold allS at h;cases h4:numV r with
  |none=>simp[h4]at h
  |some v=>simpa [h4,allS]using h
theorem aff (line:ByteArray):a1L line=a5g line:=by
 cases hline:a0g line with
 | false=>
  have h1:a1L line=none:=by unfold a1L;simp[hline]
  rw[h1];unfold a5g;cases hp:a02 line with
  |none=>rfl
  |some c=>
   cases hd:c.deed with
   |false=>simp[hd]
   |true=>rw[a2T hp hd]at hline;cases hline
 | true =>
  unfold a1L a5g a02;simp only;rw[aaD,a7O];cases hm:(cutR line.data.toList).2.2 with
  |false=>
   rw[(a2U hm).2,ady];simp only[Bool.false_eq_true,if_false,List.map_cons,List.map_nil];have:a01 (bsB [])=false:=by decide
   rw[this];simp
  | true=>
   simp only[if_true];generalize hw:(cutR line.data.toList).1=w
   generalize hr:(cutR line.data.toList).2.1=rest
   clear hw hr hm;rw[List.map_cons,a7O rest];obtain⟨rs,hrs⟩:∃rs,rs=if (cutR rest).2.2 then (a2i (cutR rest).2.1).map bsB else []:=⟨_,rfl⟩
   have e1:(if (cutR rest).2.2=true then (cutR rest).1::a2i (cutR rest).2.1 else [(cutR rest).1]).map bsB=bsB (cutR rest).1::rs:=by
    rw[hrs];cases (cutR rest).2.2<;>simp
   have e2:a0i rs=bsB (cutR rest).2.1:=by
    rw[hrs];cases hm2:(cutR rest).2.2 with
    |true=>exact acb _
    |false=>rw[(a2U hm2).2];rfl
   have e3:rs=[]↔(cutR rest).2.2=false:=by
    rw[hrs];cases hm2:(cutR rest).2.2 with
    |true=>simp[afb]
    |false=>simp
   have e4:(cutR rest).2.2=false->(cutR rest).2.1=[]:=fun h=>(a2U h).2
   rw[e1];generalize hn:(cutR rest).1=name at *
   generalize ha:(cutR rest).2.1=args at *
   generalize hm2:(cutR rest).2.2=more at *
   clear hn ha hm2 e1;show _=match a0B (bsB w) (bsB name) rs line with|some c=>if c.deed then some c else none|none=>none
   unfold a0B;rw[e2,hline];simp only[Bool.true_eq_false,false_or,Bool.and_true];cases hnm:a01 (bsB name)with
   | false=>
    simp only[if_true,Bool.false_and,Bool.and_false,Bool.false_eq_true,if_false];split
    ·rename_i c hc
     split at hc
     ·cases hc
     split at hc
     ·cases hc
     split at hc
     ·cases hc
     split at hc
     ·split at hc<;>cases hc
     split at hc
     ·split at hc
      ·split at hc
       ·cases hc;rfl
       cases hc
      cases hc
     rw[a7k hc];rfl
    rfl
   | true=>
    simp only[Bool.true_eq_false,if_false,Bool.true_and,Bool.and_true];by_cases h1:bsB w=putW
    ·rw[if_pos h1,if_pos h1];rw[a0N];cases args<;>simp[Cmd.deed]
    rw[if_neg h1,if_neg h1];by_cases h2:bsB w=dropW
    ·rw[if_pos h2,if_pos h2];by_cases h3:rs=[]
     ·rw[decide_eq_true h3,e3.1 h3];simp[Cmd.deed]
     have:more=true:=by cases more<;>simp_all
     rw[decide_eq_false h3,this];simp
    rw[if_neg h2,if_neg h2];by_cases h3:bsB w=addW
    ·have hns:bsB w≠stockW:=by rw[h3];decide
     rw[if_pos h3,if_neg hns,if_pos h3];cases hv:numR args with
     | some n=>
      have hrs1:rs=[bsB args]:=by
       rw[hrs];cases more with
       |false=>
        rw[e4 rfl]at hv;cases hv
       |true=>rw[if_pos rfl,afe (afd hv)];rfl
      have hn:=a4b (bsB args);rw[a0N,hv]at hn;rw[hrs1];simp[allS,<-hn,Cmd.deed]
     | none=>
      simp only;split
      ·rename_i c hc
       split at hc
       ·rename_i n hn
        obtain⟨r,hr,hnr⟩:=a7l hn;have:a0i rs=r:=by rw[hr,a4p]
        rw[e2]at this;rw[<-this,<-a4b,a0N,hv]at hnr;cases hnr
       cases hc
      rfl
    rw[if_neg h3];split
    ·rename_i c hc
     split at hc
     ·split at hc
      ·cases hc;rfl
      cases hc
     split at hc
     ·split at hc
      ·split at hc
       ·cases hc;rfl
       cases hc
      cases hc
     rw[a7k hc];rfl
    rfl
end Go.Proofs.YtdfkaijeppdhaaaGreatDoor
