/- Part of the proof. -/
import Derived.Test.YtdfkaijeppdhaaaGreatDoorZHt03
import Derived.Lib.AppendIntMem
set_option maxRecDepth 100000
set_option maxHeartbeats 8000000

namespace Go.Proofs.YtdfkaijeppdhaaaGreatDoor
open Go.RowKit Go.Shelf
structure Vars(w:World):Prop where
 ml:∃m,w.cell? ⟨0,0,none⟩=some (.int .i64 m)
 tab:Lib.TabIs Tryz.prog w "internal/strconv.uint64pow10" .u64 Lib.pow10Tab
 es:∃ev,w.cell? ⟨2,0,none⟩=some ev/\(ev= .nilIface\/∃te pe,ev= .iface te pe)
 er:∃ev,w.cell? ⟨3,0,none⟩=some ev/\(ev= .nilIface\/∃te pe,ev= .iface te pe)
def a1f(k:Nat):Prop:=k=0\/k=1\/k=2\/k=3
theorem aeC{n:String}{g:Nat}{k:IntKind}{zs:List Int}{w w':World}(hg:Tryz.prog.globalNamed n=some g)(h:Lib.TabIs Tryz.prog w n k zs)(hk:w'.heap[g]? =w.heap[g]?):Lib.TabIs Tryz.prog w' n k zs:=by
 unfold Lib.TabIs World.var? at h⊢;rw[hg]at h⊢;simp only[Option.bind_some]at h⊢;rw[hk];exact h
theorem aiJ{n:String}{g:Nat}{k:IntKind}{zs:List Int}{w:World}(hg:Tryz.prog.globalNamed n=some g)(h:Lib.TabIs Tryz.prog w n k zs):g<w.heap.size:=by
 unfold Lib.TabIs World.var? at h;rw[hg]at h;simp only[Option.bind_some]at h;rcases Nat.lt_or_ge g w.heap.size with h'|h'
 ·exact h'
 rw[amR h']at h;cases h
theorem Vars.lt{w:World}(h:Vars w){k:Nat}(hk:a1f k):k<w.heap.size:=by
 obtain⟨_,h0⟩:=h.ml;obtain⟨_,h1,_⟩:=h.es;obtain⟨_,h2,_⟩:=h.er;rcases hk with rfl|rfl|rfl|rfl
 ·exact World.block_lt_of_cell? _ _ h0
 ·exact aiJ (g:=1) (by kernel_rfl) h.tab
 ·exact World.block_lt_of_cell? _ _ h1
 exact World.block_lt_of_cell? _ _ h2
theorem Vars.keep{w w':World}(h:Vars w)(hk:∀k,a1f k->w'.heap[k]? =w.heap[k]?):Vars w':=by
 obtain⟨m,h0⟩:=h.ml;obtain⟨e1,h1,k1⟩:=h.es;obtain⟨e2,h2,k2⟩:=h.er
 exact⟨⟨m,(World.cell?_of_block (hk _ (.inl rfl))).trans h0⟩,aeC (g:=1) (by kernel_rfl) h.tab (hk _ (.inr (.inl rfl))),
  ⟨e1,(World.cell?_of_block (hk _ (.inr (.inr (.inl rfl))))).trans h1,k1⟩,⟨e2,(World.cell?_of_block (hk _ (.inr (.inr (.inr rfl))))).trans h2,k2⟩⟩
theorem Vars.below{w w':World}(h:Vars w)(hb:Below w.heap.size w w'):Vars w':=h.keep fun k hk=>hb.block k (h.lt hk)
structure Pst where
 P:Nat
 F:List Nat
 n:Nat
 b:anl
structure Posts(w:World)(m:Nat)(ps:Nat->Pst):Prop where
 vars:Vars w
 post:∀i,i<m->PostAt w (ps i).P (ps i).F (ps i).n (ps i).b
 apart:∀i j,i<m->j<m->i≠j->∀k∈(ps i).F,k∉(ps j).F
 free:∀i,i<m->∀k∈(ps i).F,¬a1f k
def ao9(ps:Nat->Pst)(j:Nat)(p:Pst):Nat->Pst:=fun k=>if k=j then p else ps k
theorem a0D(ps:Nat->Pst)(j:Nat)(p:Pst):ao9 ps j p j=p:=by simp[ao9]
theorem a0o(ps:Nat->Pst){j k:Nat}(p:Pst)(h:k≠j):ao9 ps j p k=ps k:=by simp[ao9,h]
def a27(w:World)(G F:List Nat):Prop:=∀k∈F,k∈G\/w.heap.size<=k
theorem Posts.nil{w:World}(hv:Vars w)(ps:Nat->Pst):Posts w 0 ps:=⟨hv,fun i h=>by omega,fun i j h=>by omega,fun i h=>by omega⟩
theorem Posts.lt{w:World}{m:Nat}{ps:Nat->Pst}(h:Posts w m ps){i:Nat}(hi:i<m){k:Nat}(hk:k∈(ps i).F):k<w.heap.size:=(h.post i hi).lt hk
theorem Posts.keep{w w':World}{m:Nat}{ps:Nat->Pst}(h:Posts w m ps)(hv:∀k,a1f k->w'.heap[k]? =w.heap[k]?)(hk:∀i,i<m->∀k∈(ps i).F,w'.heap[k]? =w.heap[k]?):Posts w' m ps:=
 ⟨h.vars.keep hv,fun i hi=>(h.post i hi).keep (hk i hi),h.apart,h.free⟩
theorem Posts.below{w w':World}{m:Nat}{ps:Nat->Pst}(h:Posts w m ps)(hb:Below w.heap.size w w'):Posts w' m ps:=
 h.keep (fun k hk=>hb.block k (h.vars.lt hk)) fun _ hi k hk=>hb.block k (h.lt hi hk)
theorem Posts.turn{w w':World}{m:Nat}{ps:Nat->Pst}(h:Posts w m ps){i:Nat}(hi:i<m){p:Pst}(hp:PostAt w' p.P p.F p.n p.b)(hF:a27 w (ps i).F p.F)(ho:Off (ps i).F w w'):Posts w' m (ao9 ps i p):=by
 refine⟨h.vars.keep fun k hk=>ho.block k (h.vars.lt hk) fun hm=>h.free i hi k hm hk,fun j hj=>?_,fun a c ha hc hac k hk=>?_,fun j hj k hk=>?_⟩
 ·by_cases e:j=i
  ·subst e;rw[a0D];exact hp
  rw[a0o _ _ e];exact(h.post j hj).off ho (h.apart j i hj hi e)
 ·by_cases ea:a=i
  ·subst ea;rw[a0D]at hk;rw[a0o _ _ (Ne.symm hac)];intro hk2;rcases hF k hk with h1|h1
   ·exact h.apart a c ha hc hac k h1 hk2
   have:=h.lt hc hk2;omega
  rw[a0o _ _ ea]at hk;by_cases ec:c=i
  ·subst ec;rw[a0D];intro hk2;rcases hF k hk2 with h1|h1
   ·exact h.apart a c ha hc hac k hk h1
   have:=h.lt ha hk;omega
  rw[a0o _ _ ec];exact h.apart a c ha hc hac k hk
 by_cases e:j=i
 ·subst e;rw[a0D]at hk;rcases hF k hk with h1|h1
  ·exact h.free j hj k h1
  intro hv;have:=h.vars.lt hv;omega
 rw[a0o _ _ e]at hk;exact h.free j hj k hk
theorem Posts.grow{w w':World}{m:Nat}{ps:Nat->Pst}(h:Posts w m ps){p:Pst}(hp:PostAt w' p.P p.F p.n p.b)(hF:a27 w [] p.F)(hb:Below w.heap.size w w'):Posts w' (m+1) (ao9 ps m p):=by
 have hnew:∀k∈p.F,w.heap.size<=k:=fun k hk=>(hF k hk).resolve_left (by simp)
 refine⟨h.vars.below hb,fun j hj=>?_,fun a c ha hc hac k hk=>?_,fun j hj k hk=>?_⟩
 ·by_cases e:j=m
  ·subst e;rw[a0D];exact hp
  rw[a0o _ _ e];exact(h.post j (by omega)).below hb
 ·by_cases ea:a=m
  ·subst ea;rw[a0D]at hk;rw[a0o _ _ (Ne.symm hac)];intro hk2;have:=h.lt (by omega) hk2;have:=hnew k hk;omega
  rw[a0o _ _ ea]at hk;by_cases ec:c=m
  ·subst ec;rw[a0D];intro hk2;have:=h.lt (by omega) hk;have:=hnew k hk2;omega
  rw[a0o _ _ ec];exact h.apart a c (by omega) (by omega) hac k hk
 by_cases e:j=m
 ·subst e;rw[a0D]at hk;intro hv;have:=h.vars.lt hv;have:=hnew k hk;omega
 rw[a0o _ _ e]at hk;exact h.free j (by omega) k hk
end Go.Proofs.YtdfkaijeppdhaaaGreatDoor
namespace Go.Proofs.YtdfkaijeppdhaaaGreatDoor
open Go
def a0z(s:ByteArray):Option Int:=match Lib.atoiAll s.data.toList with
 | .ok v=>some v
 |_=>none
def a1n:List UInt8->List (List UInt8)
 |[]=>[]
 |b::r=>if b==10 then []::a1n r else match a1n r with
  |[]=>[[b]]
  |x::xs=>(b::x)::xs
def a4K(l:ByteArray):Option Ent:=match a1c 32 3 l with
 |[a,b,c,d]=>match a0z a,a0z b,a0z c with
  |some p,some n,some k=>some (p,n,k,d)
  |_,_,_=>none
 |_=>none
def follows(b:anl)(e:Ent):Bool:=betw 0 (a04 e) 3&&betw 1 (ano e) 1000000&&a0j (a06 e)&&
 decide (anv e=((b (a04 e).toNat).length:Int)+1)&&decide ((b (a04 e).toNat).length≠60)&&(decide ((b (a04 e).toNat).length=0)||decide (a0m (b (a04 e).toNat)<ano e))
def ao5(b:anl)(e:Ent):Option anl:=if follows b e then some (a0K b (a04 e).toNat e)else none
def a6s:anl->List Ent->Option anl
 |b,[]=>some b
 |b,e::l=>match ao5 b e with
  |some c=>a6s c l
  |none=>none
def a1U:anl->List (List UInt8)->Option anl
 |b,[]=>some b
 | b,x::l=>match a4K (bsB x)with
  |none=>none
  |some e=>match ao5 b e with
   |some c=>a1U c l
   |none=>none
def a2S(s:ByteArray):Option anl:=match a1U anO (a1n s.data.toList)with
 |some b=>if a0F b=s then some b else none
 |none=>none
theorem a1E(b:anl)(e:Ent):follows b e=true↔0<=a04 e/\a04 e<=3/\1<=ano e/\ano e<=1000000/\a0j (a06 e)=true/\anv e=((b (a04 e).toNat).length:Int)+1/\(b (a04 e).toNat).length≠60/\((b (a04 e).toNat).length=0\/a0m (b (a04 e).toNat)<ano e):=by
 unfold follows;simp only[Bool.and_eq_true,Bool.or_eq_true,decide_eq_true_eq,betw_iff,and_assoc]
theorem akr{b c:anl}{e:Ent}(hb:a02 b)(h:ao5 b e=some c):a02 c:=by
 unfold ao5 at h;split at h
 ·rename_i hf
  rw[a1E]at hf;obtain⟨h0,h1,h2,h3,h4,h5,h6,h7⟩:=hf;simp only[Option.some.injEq]at h;subst h;have hn:(a04 e).toNat<4:=by omega
  have hk:=hb _ hn;refine adO hb (a7z hk (by have:=hk.len;omega) (by omega) h5 h2 h3 (by rw[a1g];exact h4) ?_);rcases h7 with h7|h7
  ·rw[alK.1 h7];show (0:Int)<_;omega
  exact h7
 cases h
theorem a5E:∀(l:List (List UInt8)) {b c:anl},a02 b->a1U b l=some c->a02 c
 |[],b,c,hb,h=>by simp only[a1U,Option.some.injEq]at h;subst h;exact hb
 |x::l,b,c,hb,h=>by
  unfold a1U at h;split at h
  ·cases h
  split at h
  ·rename_i c1 h1;exact a5E l (akr hb h1) h
  cases h
theorem a8t{s:ByteArray}{b:anl}(h:a2S s=some b):a02 b/\a0F b=s:=by
 unfold a2S at h;split at h
 ·rename_i b1 h1
  split at h
  ·rename_i ht
   simp only[Option.some.injEq]at h;subst h;exact⟨a5E _ a3w h1,ht⟩
  cases h
 cases h
theorem a8u:∀(x r:List UInt8),(10:UInt8)∉x->a1n (x++10::r)=x::a1n r
 |[],r,_=>by simp[a1n]
 | b::x,r,h=>by
  have hb:(b==10)=false:=by
   rw[beq_eq_false_iff_ne];rintro rfl;simp at h
  rw[alM,a1n,hb,a8u x r (fun hm=>h (by simp[hm]))];simp
def a4d(e:Ent):List UInt8:=Lib.itoa (a04 e)++32::(Lib.itoa (anv e)++32::(Lib.itoa (ano e)++32::(a06 e).data.toList))
theorem aiK(e:Ent):a32 e=a4d e++[10]:=by unfold a32 a4d;simp
theorem aiL{e:Ent}(h:a3n (a06 e)=true):(10:UInt8)∉a4d e:=fun hm=>by
 unfold a4d at hm;have h1:=a6q (a04 e);have h2:=a6q (anv e);have h3:=a6q (ano e);have h4:=agp h;simp only[alU,alI]at hm;simp_all
theorem a7B:∀(l:List Ent),(∀e∈l,a3n (a06 e)=true)->a1n (a0O l)=l.map a4d
 |[],_=>rfl
 |e::l,h=>by
  show a1n (a32 e++a0O l)=_;rw[aiK,am6,ana,a8u _ _ (aiL (h e (by simp))),a7B l (fun x hx=>h x (by simp[hx])),alW]
theorem a3M(c:UInt8)(k:Nat):∀(x r:List UInt8),c∉x->a0c c (k+1) (x++c::r)=x::a0c c k r
 |[],r,_=>by simp[a0c]
 | b::x,r,h=>by
  have hb:(b==c)=false:=by
   rw[beq_eq_false_iff_ne];rintro rfl;simp at h
  rw[alM,a0c,hb,a3M c k x r (fun hm=>h (by simp[hm]))];simp
theorem a4L(n:Int):(32:UInt8)∉Lib.itoa n:=fun h=>by have:=a6n n _ h;simp at this
theorem a6t:∀(l:List UInt8) (acc:Nat),(∀x∈l,48<=x.toNat/\x.toNat<=57)->acc * 10^l.length+10^l.length<=1000000000000000000->Lib.parseUint10 acc l= .ok (l.foldl (fun a x=>a * 10+(x.toNat-48)) acc)
 |[],_,_,_=>rfl
 | c::r,acc,h,hs=>by
  have hc:=h c (by simp);have hp:1<=10^r.length:=Nat.one_le_pow _ _ (by decide);have e1:acc * 10^(r.length+1)=acc * 10 * 10^r.length:=by rw[Nat.pow_succ,anj (10^r.length) 10,<-Nat.mul_assoc]
  have e2:10^(r.length+1)=10 * 10^r.length:=by rw[Nat.pow_succ,anj]
  rw[alB,e1,e2]at hs;have b1:acc * 10<=acc * 10 * 10^r.length:=Nat.le_mul_of_pos_right _ hp
  have e3:(acc * 10+(c.toNat-48)) * 10^r.length+10^r.length<=acc * 10 * 10^r.length+10 * 10^r.length:=by
   have:(c.toNat-48+1) * 10^r.length<=10 * 10^r.length:=amL _ (by omega);rw[anh,Nat.one_mul]at this;rw[anh];omega
  unfold Lib.parseUint10;rw[if_pos hc,if_neg (by omega),if_neg (by omega),a6t r _ (fun x hx=>h x (by simp[hx])) (by omega)];rfl
theorem a7V(u:Nat):(Lib.decDigits u).foldl (fun a x=>a * 10+(x.toNat-48)) 0=u:=by
 induction u using Nat.strongRecOn with
 |_ u ih=>
  rw[Lib.decDigits];split
  ·simp only[amY,List.foldl_nil,UInt8.toNat_ofNat'];omega
  rw[amN,ih (u / 10) (by omega)];simp only[amY,List.foldl_nil,UInt8.toNat_ofNat'];omega
theorem abA(u:Nat)(h:u<10000000000):Lib.atoiAll (Lib.itoa (u:Int))= .ok (u:Int):=by
 have hi:Lib.itoa (u:Int)=Lib.decDigits u:=by unfold Lib.itoa;rw[if_neg (by omega),amo]
 have hl:(Lib.decDigits u).length<=10:=by rw[Lib.decDigits_length];exact nDigits_le 9 u (by omega)
 have hb:=a1H u;have hf:=a7V u
 have hm:Lib.parseMag (Lib.decDigits u)= .ok u:=by
  unfold Lib.parseMag
  rw[if_neg (a2z u),a6t _ 0 hb (by
   have:10^(Lib.decDigits u).length<=10^10:=Nat.pow_le_pow_right (by decide) hl
   rw[Nat.zero_mul,amg];exact alF this (by decide)),hf]
 rw[hi];cases hd:Lib.decDigits u with
 |nil=>exact absurd hd (a2z u)
 |cons c r=>
  have hc:=hb c (by rw[hd];simp);rw[hd]at hm;have n1:¬c.toNat=43:=by omega
  have n2:¬c.toNat=45:=by omega
  unfold Lib.atoiAll;simp only[n1,n2,or_self,if_false,not_false_eq_true,true_and,false_and];rw[hm];simp only;rw[if_neg (by omega)]
theorem a5F{n:Int}(h0:0<=n)(h1:n<=1000000000):a0z (itoaB n)=some n:=by
 obtain⟨u,rfl⟩:=alT h0;unfold a0z;rw[show (itoaB (u:Int)).data.toList=Lib.itoa (u:Int)from rfl,abA u (by omega)]
theorem aiM{e:Ent}(h1:0<=a04 e/\a04 e<=1000000)(h2:0<=anv e/\anv e<=1000000)(h3:0<=ano e/\ano e<=1000000):a4K (bsB (a4d e))=some e:=by
 unfold a4K a1c;rw[a1b];unfold a4d;rw[a3M _ _ _ _ (a4L _),a3M _ _ _ _ (a4L _),a3M _ _ _ _ (a4L _),a12];simp only[alW,List.map_nil];have a1:a0z (bsB (Lib.itoa (a04 e)))=some (a04 e):=a5F h1.1 (by omega);have a2:a0z (bsB (Lib.itoa (anv e)))=some (anv e):=a5F h2.1 (by omega);have a3:a0z (bsB (Lib.itoa (ano e)))=some (ano e):=a5F h3.1 (by omega);rw[a1,a2,a3,a3W];rfl
theorem aah:∀(l:List Ent) (b:anl),(∀e∈l,a4K (bsB (a4d e))=some e)->a1U b (l.map a4d)=a6s b l
 |[],_,_=>rfl
 |e::l,b,h=>by
  rw[alW,a1U,h e (by simp)];simp only;unfold a6s;cases ao5 b e with
  |none=>rfl
  |some c=>exact aah l c (fun x hx=>h x (by simp[hx]))
def ofP(l:List Ent)(i:Nat):List Ent:=l.filter fun e=>decide (a04 e=(i:Int))
theorem adT{b:anl}(hb:a02 b){i:Nat}(hi:i<4):ofP (ann b) i=b i:=by
 have hm:∀j,j<4->∀e∈b j,a04 e=(j:Int):=fun j hj e he=>((hb j hj).mem he).1
 have hasc:∀j,j<4->Asc (b j):=fun j hj=>(hb j hj).asc.imp fun h=>.inl h
 refine a5z (List.Pairwise.sublist List.filter_sublist (aet hb _)) (hasc i hi) ?_;have hp:=(a4J b).filter (fun e=>decide (a04 e=(i:Int)))
 refine hp.trans ?_
 have hs:∀j,j<4->(b j).filter (fun e=>decide (a04 e=(i:Int)))=if j=i then b j else []:=fun j hj=>by
  split
  ·rename_i h;subst h
   exact List.filter_eq_self.2 fun e he=>by rw[hm j hj e he];simp
  rename_i h
  exact List.filter_eq_nil_iff.2 fun e he=>by rw[hm j hj e he];simp;omega
 rw[List.filter_append,List.filter_append,List.filter_append,hs 0 (by omega),hs 1 (by omega),hs 2 (by omega),hs 3 (by omega)];rcases (show i=0\/i=1\/i=2\/i=3 by omega)with rfl|rfl|rfl|rfl<;>simp
theorem aai{b:anl}(hb:a02 b):∀(l2 l1:List Ent) (c:anl),l1++l2=ann b->(∀i,i<4->c i=ofP l1 i)->∃d,a6s c l2=some d/\BookEq d b
 | [],l1,c,h,hc=>⟨c,rfl,fun i hi=>by
   rw[amv]at h;rw[hc i hi,h,adT hb hi]⟩
 | e::l2,l1,c,h,hc=>by
  obtain⟨i,hi,he⟩:=abx (b:=b) (e:=e) (by rw[<-h];simp);obtain⟨q1,q2,q3,q4⟩:=(hb i hi).mem he
  have ht:(a04 e).toNat=i:=by omega
  have hpre:ofP l1 i++[e]<+:b i:=by
   rw[<-adT hb hi,<-h];unfold ofP;rw[List.filter_append,List.filter_cons_of_pos (by simpa using q1)];exact⟨_,by rw[am6,ana]⟩
  have hk:ListOk i (ofP l1 i++[e]):=(hb i hi).front hpre
  have hown:=hk.own (ofP l1 i).length (by simp)
  simp only[List.getElem_append_right (aly _),ani,am1]at hown;have hlen:=hk.len;rw[alA,amF]at hlen
  have hf:follows c e=true:=by
   rw[a1E,ht,hc i hi];refine⟨by omega,by omega,q2,q3,by rw[<-a1g];exact q4,by have:=hown.2.1;omega,by omega,?_⟩;by_cases h0:(ofP l1 i).length=0
   ·exact .inl h0
   refine .inr ?_
   cases hl:(ofP l1 i).getLast? with
   |none=>exact absurd (by rw[List.getLast?_eq_none_iff.1 hl];rfl) h0
   |some x=>
    unfold a0m;rw[hl];exact(amW.1 hk.asc).2.2 x (List.mem_of_getLast? hl) e (by simp)
  unfold a6s ao5;rw[if_pos hf,ht];refine aai hb l2 (l1++[e]) _ (by rw[am6,ana];exact h) fun j hj=>?_;unfold a0K ofP;rw[List.filter_append];by_cases hji:j=i
  ·subst hji;rw[a3d,hc j hj,List.filter_cons_of_pos (by simpa using q1)];rfl
  rw[a2N _ _ hji,hc j hj,List.filter_cons_of_neg (by rw[q1];simp;omega)];simp[ofP]
theorem a0q{b:anl}(hb:a02 b){e:Ent}(h:e∈ann b):(0<=a04 e/\a04 e<=3)/\(1<=anv e/\anv e<=60)/\(1<=ano e/\ano e<=1000000)/\a3n (a06 e)=true:=by
 obtain⟨i,hi,hm⟩:=abx h;obtain⟨j,hj,rfl⟩:=ami hm;obtain⟨h1,h2,h3,h4,h5⟩:=(hb i hi).own j hj
 have:=(hb i hi).len
 exact⟨by omega,by omega,⟨h3,h4⟩,h5⟩
theorem agr{b:anl}(hb:a02 b):∃d,a2S (a0F b)=some d/\BookEq d b:=by
 obtain⟨d,h1,h2⟩:=aai hb (ann b) [] anO rfl (fun i hi=>rfl);refine⟨d,?_,h2⟩;unfold a2S;rw[show (a0F b).data.toList=a0O (ann b)from rfl,a7B _ (fun e he=>(a0q hb he).2.2.2),aah _ _ (fun e he=>?_),h1]
 ·simp only;rw[h2.text,if_pos rfl]
 obtain⟨k1,k2,k3,_⟩:=a0q hb he;exact aiM (by omega) (by omega) (by omega)
end Go.Proofs.YtdfkaijeppdhaaaGreatDoor
namespace Go.Proofs.YtdfkaijeppdhaaaGreatDoor
open Go
def anq:List UInt8->List UInt8×List UInt8×Bool
 |[]=>([],[],false)
 |b::r=>if b==32 then ([],r,true)else (b::(anq r).1,(anq r).2.1,(anq r).2.2)
theorem a4e:∀(l:List UInt8) (k:Nat),a0c 32 (k+1) l=if (anq l).2.2 then (anq l).1::a0c 32 k (anq l).2.1 else [(anq l).1]
 |[],k=>rfl
 |b::r,k=>by
  by_cases hb:b=32
  ·subst hb;simp[a0c,anq]
  have hbc:(b==32)=false:=by simpa using hb
  have ih:=a4e r k;simp only[a0c,anq,hbc,Bool.false_eq_true,if_false];rw[ih];cases h:(anq r).2.2<;>simp
theorem a8v:∀(l:List UInt8),l.count 32=if (anq l).2.2 then (anq l).2.1.count 32+1 else 0
 |[]=>rfl
 |b::r=>by
  by_cases hb:b=32
  ·subst hb;simp[anq]
  have hbc:(b==32)=false:=by simpa using hb
  rw[List.count_cons_of_ne hb,a8v r];simp[anq,hbc]
theorem a4M{l:List UInt8}(h:(anq l).2.2=false):(anq l).1=l/\(anq l).2.1=[]:=by
 induction l with
 |nil=>exact⟨rfl,rfl⟩
 |cons b r ih=>
  by_cases hb:b=32
  ·subst hb;simp[anq]at h
  have hbc:(b==32)=false:=by simpa using hb
  simp only[anq,hbc,Bool.false_eq_true,if_false]at h⊢;have:=ih h;exact⟨by rw[this.1],this.2⟩
def a2A(l:List UInt8):List (List UInt8):=a0c 32 (l.count 32) l
theorem a8w(l:List UInt8):a2A l=if (anq l).2.2 then (anq l).1::a2A (anq l).2.1 else [(anq l).1]:=by
 unfold a2A;rw[a8v];cases h:(anq l).2.2 with
 |true=>
  have:=a4e l ((anq l).2.1.count 32);rw[h]at this;simpa using this
 |false=>
  rw[(a4M h).1];simp[a12]
theorem abB(s:ByteArray):splitA 32 s=(a2A s.data.toList).map bsB:=rfl
theorem ags(l:List UInt8):a2A l≠[]:=a4G _ _ _
theorem ad6(l:List UInt8):Lib.join (a2A l) [32]=l:=a3L _ _ _
theorem ad7(l:List UInt8):a0k ((a2A l).map bsB)=bsB l:=by
 unfold a0k;rw[amH,show ((fun x:ByteArray=>x.data.toList)∘bsB)=id from rfl,List.map_id,ad6]
def a1V(x:UInt8):Bool:=decide (48<=x.toNat)&&decide (x.toNat<=57)
def anQ(l:List UInt8):Nat:=l.foldl (fun a x=>a * 10+(x.toNat-48)) 0
def anI(l:List UInt8)(k:Nat):Option Nat:=
 if l.length<1\/k<l.length\/(1<l.length/\l.headD 0=48)then none else if l.all a1V then some (anQ l)else none
def anM(l:List UInt8):Option Int:=match l with
 |45::r=>match anI r 4 with
  |some n=>if 0<n then some (-(n:Int))else none
  |none=>none
 |_=>(anI l 4).map fun n:Nat=>(n:Int)
theorem aaj(l:List UInt8)(x:UInt8):anQ (l++[x])=anQ l * 10+(x.toNat-48):=by unfold anQ;rw[amN];rfl
theorem abC:∀(l:List UInt8) (a:Nat),l.all a1V=true->l.foldl (fun a x=>a * 10+(x.toNat-48)) a<(a+1) * 10^l.length
 |[],a,_=>by simp
 |x::l,a,h=>by
  simp only[List.all_cons,Bool.and_eq_true]at h;have hx:48<=x.toNat/\x.toNat<=57:=by have:=h.1;unfold a1V at this;simpa using this
  have ih:=abC l (a * 10+(x.toNat-48)) h.2;rw[amY,alB,Nat.pow_succ];have hp:(a * 10+(x.toNat-48)+1) * 10^l.length<=((a+1) * 10) * 10^l.length:=amL _ (by omega);have e:(a+1) * (10^l.length * 10)=((a+1) * 10) * 10^l.length:=by rw[anj (10^l.length) 10,<-Nat.mul_assoc]
  omega
theorem adU{l:List UInt8}(h:l.all a1V=true):anQ l<10^l.length:=by
 have:=abC l 0 h;rw[amg,Nat.one_mul]at this;exact this
theorem abD:∀(l:List UInt8) (a:Nat),a<=l.foldl (fun a x=>a * 10+(x.toNat-48)) a
 |[],a=>aly _
 |x::l,a=>by rw[amY];exact alF (by omega) (abD l _)
theorem a6h:∀(n:Nat) (l:List UInt8),l.length=n->l.all a1V=true->l≠[]->(l.length=1\/l.headD 0≠48)->Lib.decDigits (anQ l)=l
 |0,l,hn,_,h0,_=>absurd (alK.1 hn) h0
 | n+1,l,hn,h,h0,hz=>by
  obtain⟨r,x,rfl⟩:∃r x,l=r++[x]:=⟨l.dropLast,l.getLast h0,(List.dropLast_concat_getLast h0).symm⟩
  rw[List.all_append,Bool.and_eq_true]at h;have hx:48<=x.toNat/\x.toNat<=57:=by have:=h.2;unfold a1V at this;simpa using this
  have ex:UInt8.ofNat (48+(x.toNat-48))=x:=by
   rw[show 48+(x.toNat-48)=x.toNat by omega];simp
  rw[aaj];by_cases hr:r=[]
  ·subst hr;rw[show anQ []=0 from rfl,Lib.decDigits_one (by omega),Nat.zero_mul,amg,ex];rfl
  have hd:(r++[x]).headD 0=r.headD 0:=by cases r with|nil=>exact absurd rfl hr|cons a t=>rfl
  have hne:r.headD 0≠48:=by
   rcases hz with hz|hz
   ·rw[alA,amF]at hz;exact absurd (alK.1 (by omega)) hr
   rw[<-hd];exact hz
  have hrv:1<=anQ r:=by
   cases r with
   |nil=>exact absurd rfl hr
   |cons a t=>
    have ha:a1V a=true:=by have:=h.1;simp only[List.all_cons,Bool.and_eq_true]at this;exact this.1
    have ha2:48<=a.toNat/\a.toNat<=57:=by unfold a1V at ha;simpa using ha
    have hne2:a.toNat≠48:=fun e=>hne (by simp only[List.headD_cons];exact UInt8.toNat_inj.1 e);have:=abD t (0 * 10+(a.toNat-48));unfold anQ;rw[amY];omega
  rw[Lib.decDigits,dif_neg (by omega),show (anQ r * 10+(x.toNat-48)) / 10=anQ r by omega,show (anQ r * 10+(x.toNat-48)) % 10=x.toNat-48 by omega,ex,
   a6h n r (by simpa using hn) h.1 hr (.inr hne)]
theorem a6u{l:List UInt8}{k n:Nat}(h:anI l k=some n):l=Lib.decDigits n/\n<10^k/\l.length<=k:=by
 unfold anI at h;split at h
 ·cases h
 rename_i hc
 split at h
 ·rename_i ha
  simp only[Option.some.injEq]at h;subst h;have hl:l≠[]:=by rintro rfl;simp at hc
  refine⟨(a6h _ l rfl ha hl ?_).symm,alJ (adU ha) (Nat.pow_le_pow_right (by decide) (by omega)),by omega⟩;by_cases h1:l.length=1
  ·exact .inl h1
  exact .inr fun h2=>hc (.inr (.inr ⟨by have:=amP.2 hl;omega,h2⟩))
 cases h
theorem a9P{u:Nat}(h:10<=u):(Lib.decDigits u).headD 0≠48:=by
 induction u using Nat.strongRecOn with
 | _ u ih=>
  rw[Lib.decDigits,dif_neg (by omega)]
  have hd:(Lib.decDigits (u / 10)++[UInt8.ofNat (48+u % 10)]).headD 0=(Lib.decDigits (u / 10)).headD 0:=by
   cases hq:Lib.decDigits (u / 10)with
   |nil=>exact absurd hq (a2z _)
   |cons a t=>rfl
  rw[hd];by_cases h2:10<=u / 10
  ·exact ih (u / 10) (by omega) h2
  rw[Lib.decDigits_one (by omega)];intro e;have:(UInt8.ofNat (48+u / 10)).toNat=(48:UInt8).toNat:=by rw[show UInt8.ofNat (48+u / 10)=48 from e]
  rw[UInt8.toNat_ofNat']at this;have h48:(48:UInt8).toNat=48:=rfl
  omega
theorem adV{n k:Nat}(h:n<10^(k+1)):anI (Lib.decDigits n) (k+1)=some n:=by
 unfold anI;have hl:(Lib.decDigits n).length<=k+1:=by rw[Lib.decDigits_length];exact nDigits_le k n h
 have hp:1<=(Lib.decDigits n).length:=amP.2 (a2z n)
 have hc:¬((Lib.decDigits n).length<1\/k+1<(Lib.decDigits n).length\/(1<(Lib.decDigits n).length/\(Lib.decDigits n).headD 0=48)):=by
  rintro(h1|h1|⟨h1,h2⟩)
  ·omega
  ·omega
  by_cases h10:n<10
  ·rw[Lib.decDigits_one h10]at h1;simp at h1
  exact a9P (by omega) h2
 rw[if_neg hc,if_pos]
 ·exact congrArg some (a7V n)
 rw[amh];intro x hx;have:=a1H n x hx;unfold a1V;simp[this]
theorem agt{n:Int}(h0: -9999<=n)(h1:n<=9999):Lib.atoiAll (Lib.itoa n)= .ok n:=by
 by_cases hn:0<=n
 ·obtain⟨u,rfl⟩:=alT hn;exact abA u (by omega)
 obtain⟨u,rfl⟩:∃u:Nat,n= -(u:Int):=⟨n.natAbs,by omega⟩
 have hi:Lib.itoa (-(u:Int))=45::Lib.decDigits u:=by
  unfold Lib.itoa;rw[if_pos (by omega),show (-(u:Int)).natAbs=u by omega]
 have hl:(Lib.decDigits u).length<=4:=by rw[Lib.decDigits_length];exact nDigits_le 3 u (by omega)
 have hm:Lib.parseMag (Lib.decDigits u)= .ok u:=by
  unfold Lib.parseMag
  rw[if_neg (a2z u),a6t _ 0 (a1H u) (by
   have:10^(Lib.decDigits u).length<=10^4:=Nat.pow_le_pow_right (by decide) hl
   rw[Nat.zero_mul,amg];exact alF this (by decide)),a7V u]
 rw[hi];have n3:(45:UInt8).toNat=45:=rfl
 unfold Lib.atoiAll;simp only[n3,or_true,if_true,hm,not_true,false_and,if_false,true_and];rw[if_neg (by omega)]
theorem aiN(s:ByteArray)(v:Int):anp s=some v↔s=itoaB v/\ -9999<=v/\v<=9999:=by
 refine⟨a3e,fun⟨h1,h2,h3⟩=>?_⟩;unfold anp;rw[show s.data.toList=Lib.itoa v by rw[h1];rfl,agt h2 h3];simp only;rw[if_pos (by rw[Bool.and_eq_true,decide_eq_true_eq,betw_iff];exact⟨h1.symm,h2,h3⟩)]
theorem aiO(u:Nat):∀r,Lib.decDigits u≠45::r:=fun r h=>by
 have:=a1H u 45 (by rw[h];simp);simp at this
theorem a6v{l:List UInt8}{v:Int}(h:anM l=some v):l=Lib.itoa v/\ -9999<=v/\v<=9999:=by
 unfold anM at h;split at h
 ·rename_i r
  split at h
  ·rename_i n hn
   split at h
   ·simp only[Option.some.injEq]at h;subst h;obtain⟨h1,h2,_⟩:=a6u hn;refine⟨?_,by omega,by omega⟩;unfold Lib.itoa;rw[if_pos (by omega),show (-(n:Int)).natAbs=n by omega,<-h1]
   cases h
  cases h
 cases hn:anI l 4 with
 |none=>rw[hn]at h;cases h
 |some n=>
  rw[hn]at h;simp only[Option.map_some,Option.some.injEq]at h;subst h;obtain⟨h1,h2,_⟩:=a6u hn;refine⟨?_,by omega,by omega⟩;unfold Lib.itoa;rw[if_neg (by omega),amo,<-h1]
theorem aks{v:Int}(h0: -9999<=v)(h1:v<=9999):anM (Lib.itoa v)=some v:=by
 by_cases hn:0<=v
 ·obtain⟨u,rfl⟩:=alT hn;have hi:Lib.itoa (u:Int)=Lib.decDigits u:=by unfold Lib.itoa;rw[if_neg (by omega),amo]
  rw[hi];unfold anM;split
  ·rename_i r hr;exact absurd hr (aiO u r)
  rw[adV (k:=3) (by omega)];rfl
 obtain⟨u,rfl⟩:∃u:Nat,v= -(u:Int):=⟨v.natAbs,by omega⟩
 have hi:Lib.itoa (-(u:Int))=45::Lib.decDigits u:=by
  unfold Lib.itoa;rw[if_pos (by omega),show (-(u:Int)).natAbs=u by omega]
 rw[hi];unfold anM;simp only;rw[adV (k:=3) (by omega)];simp only;rw[if_pos (by omega)]
theorem a5G(s:ByteArray):anM s.data.toList=anp s:=by
 cases h:anp s with
 |some v=>
  obtain⟨h1,h2,h3⟩:=a3e h;rw[h1];exact aks h2 h3
 | none=>
  cases h2:anM s.data.toList with
  |none=>rfl
  |some v=>
   obtain⟨k1,k2,k3⟩:=a6v h2;have:=(aiN s v).2 ⟨ba_ext k1,k2,k3⟩
   rw[h]at this;cases this
def a29(line:ByteArray):Option Cmd:=
 let c1:=anq line.data.toList
 let c2:=anq c1.2.1
 if a0j line=false\/a01 (bsB c2.1)=false then none
 else if bsB c1.1=putW then (if c2.2.1=[]then none else some (.put (bsB c2.1) (bsB c2.2.1)))
 else if bsB c1.1=dropW then (if c2.2.2 then none else some (.drop (bsB c2.1)))
 else if bsB c1.1=addW then (match anM c2.2.1 with
  |some n=>some (.add (bsB c2.1) n)
  |none=>none)
 else none
def a5H(line:ByteArray):Option Cmd:=match a05 line with
 |some c=>if c.deed then some c else none
 |none=>none
theorem a7W{w:ByteArray}{rest:List ByteArray}{c:Cmd}(h:a1J w rest=some c):c.deed=false:=by
 unfold a1J at h;split at h
 ·cases h
 split at h
 ·cases h
 split at h
 ·cases h;rfl
 cases h
theorem aeD:anq []=([],[],false):=rfl
theorem agu{l:List UInt8}{v:Int}(h:anM l=some v):(32:UInt8)∉l:=by rw[(a6v h).1];exact a4L v
theorem agv{l:List UInt8}(h:(32:UInt8)∉l):a2A l=[l]:=by unfold a2A;rw[List.count_eq_zero.2 h,a12]
theorem a7X{rs:List ByteArray}{n:Int}(h:allS anp rs=some [n]):∃r,rs=[r]/\anp r=some n:=by
 have hl:=allS_len _ _ _ h;match rs,hl with
 |[r],_=>
  refine⟨r,rfl,?_⟩;unfold allS at h;cases h4:anp r with
  |none=>simp[h4]at h
  |some v=>simpa [h4,allS]using h
theorem agw (line:ByteArray):a29 line=a5H line:=by
 cases hline:a0j line with
 | false=>
  have h1:a29 line=none:=by unfold a29;simp[hline]
  rw[h1];unfold a5H;cases hp:a05 line with
  |none=>rfl
  |some c=>
   cases hd:c.deed with
   |false=>simp[hd]
   |true=>rw[a3f hp hd]at hline;cases hline
 | true =>
  unfold a29 a5H a05;simp only;rw[abB,a8w];cases hm:(anq line.data.toList).2.2 with
  |false=>
   rw[(a4M hm).2,aeD];simp only[Bool.false_eq_true,if_false,alW,List.map_nil];have:a01 (bsB [])=false:=by decide
   rw[this];simp
  | true=>
   simp only[if_true];generalize hw:(anq line.data.toList).1=w
   generalize hr:(anq line.data.toList).2.1=rest
   clear hw hr hm;rw[alW,a8w rest];obtain⟨rs,hrs⟩:∃rs,rs=if (anq rest).2.2 then (a2A (anq rest).2.1).map bsB else []:=⟨_,rfl⟩
   have e1:(if (anq rest).2.2=true then (anq rest).1::a2A (anq rest).2.1 else [(anq rest).1]).map bsB=bsB (anq rest).1::rs:=by
    rw[hrs];cases (anq rest).2.2<;>simp
   have e2:a0k rs=bsB (anq rest).2.1:=by
    rw[hrs];cases hm2:(anq rest).2.2 with
    |true=>exact ad7 _
    |false=>rw[(a4M hm2).2];rfl
   have e3:rs=[]↔(anq rest).2.2=false:=by
    rw[hrs];cases hm2:(anq rest).2.2 with
    |true=>simp[ags]
    |false=>simp
   have e4:(anq rest).2.2=false->(anq rest).2.1=[]:=fun h=>(a4M h).2
   rw[e1];generalize hn:(anq rest).1=name at *
   generalize ha:(anq rest).2.1=args at *
   generalize hm2:(anq rest).2.2=more at *
   clear hn ha hm2 e1;show _=match a0I (bsB w) (bsB name) rs line with|some c=>if c.deed then some c else none|none=>none
   unfold a0I;rw[e2,hline];simp only[Bool.true_eq_false,false_or,Bool.and_true];cases hnm:a01 (bsB name)with
   | false=>
    simp only[if_true,Bool.false_and,Bool.and_false,Bool.false_eq_true,if_false];split
    ·rename_i c hc
     split at hc
     ·cases hc
     split at hc
     ·cases hc
     split at hc
     ·cases hc
     split at hc
     ·split at hc<;>cases hc
     split at hc
     ·split at hc
      ·split at hc
       ·cases hc;rfl
       cases hc
      cases hc
     rw[a7W hc];rfl
    rfl
   | true=>
    simp only[Bool.true_eq_false,if_false,Bool.true_and,Bool.and_true];by_cases h1:bsB w=putW
    ·rw[if_pos h1,if_pos h1];rw[a1b];cases args<;>simp[Cmd.deed]
    rw[if_neg h1,if_neg h1];by_cases h2:bsB w=dropW
    ·rw[if_pos h2,if_pos h2];by_cases h3:rs=[]
     ·rw[decide_eq_true h3,e3.1 h3];simp[Cmd.deed]
     have:more=true:=by cases more<;>simp_all
     rw[decide_eq_false h3,this];simp
    rw[if_neg h2,if_neg h2];by_cases h3:bsB w=addW
    ·have hns:bsB w≠stockW:=by rw[h3];decide
     rw[if_pos h3,if_neg hns,if_pos h3];cases hv:anM args with
     | some n=>
      have hrs1:rs=[bsB args]:=by
       rw[hrs];cases more with
       |false=>
        rw[e4 rfl]at hv;cases hv
       |true=>rw[if_pos rfl,agv (agu hv)];rfl
      have hn:=a5G (bsB args);rw[a1b,hv]at hn;rw[hrs1];simp[allS,<-hn,Cmd.deed]
     | none=>
      simp only;split
      ·rename_i c hc
       split at hc
       ·rename_i n hn
        obtain⟨r,hr,hnr⟩:=a7X hn;have:a0k rs=r:=by rw[hr,a4H]
        rw[e2]at this;rw[<-this,<-a5G,a1b,hv]at hnr;cases hnr
       cases hc
      rfl
    rw[if_neg h3];split
    ·rename_i c hc
     split at hc
     ·split at hc
      ·cases hc;rfl
      cases hc
     split at hc
     ·split at hc
      ·split at hc
       ·cases hc;rfl
       cases hc
      cases hc
     rw[a7W hc];rfl
    rfl
end Go.Proofs.YtdfkaijeppdhaaaGreatDoor
