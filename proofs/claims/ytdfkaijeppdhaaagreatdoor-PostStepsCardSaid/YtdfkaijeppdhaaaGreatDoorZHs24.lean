/- Part of the proof. -/
import Derived.Test.YtdfkaijeppdhaaaGreatDoorZHs00
import Derived.RangeFuncNested

set_option maxRecDepth 100000
set_option maxHeartbeats 8000000

namespace Go.Proofs.YtdfkaijeppdhaaaGreatDoor
open Go.RowKit
structure Turned(S:Nat->Prop)(X X':World):Prop where
 os:X'.os=X.os
 tape:X'.tape=X.tape
 output:X'.output=X.output
 size:X'.heap.size=X.heap.size
 block:∀k,¬S k->X'.heap[k]? =X.heap[k]?
theorem Turned.refl(S:Nat->Prop)(X:World):Turned S X X:=⟨rfl,rfl,rfl,rfl,fun _ _=>rfl⟩
theorem Turned.trans{S:Nat->Prop}{A B C:World}(h:Turned S A B)(k:Turned S B C):Turned S A C:=
 ⟨k.os.trans h.os,k.tape.trans h.tape,k.output.trans h.output,k.size.trans h.size,fun i hi=>(k.block i hi).trans (h.block i hi)⟩
theorem Turned.mono{S T:Nat->Prop}{A B:World}(h:Turned S A B)(hs:∀k,S k->T k):Turned T A B:=
 ⟨h.os,h.tape,h.output,h.size,fun k hk=>h.block k fun h'=>hk (hs k h')⟩
theorem Turned.below{S:Nat->Prop}{A B:World}(h:Turned S A B){n:Nat}(hs:∀k,S k->n<=k):Below n A B:=
 ⟨h.os,h.tape,h.output,Nat.le_of_eq h.size.symm,fun k hk=>h.block k fun h'=>by have:=hs k h';omega⟩
theorem a2u{S:Nat->Prop}(X:World)(b:Nat)(o:Obj)(hb:S b):Turned S X (X.putObj b o):=
 ⟨rfl,rfl,rfl,by simp[World.putObj],fun k hk=>World.putObj_heap_other (fun e=>hk (e▸hb))⟩
theorem a2i{S:Nat->Prop}(X:World)(b o:Nat)(v:Value)(hb:S b):Turned S X (X.setCell ⟨b,o,none⟩ v):=
 ⟨rfl,rfl,rfl,by simp[World.setCell],fun k hk=>aok _ _ _ _ (fun e=>hk (e▸hb))⟩
theorem afu{S:Nat->Prop}(X:World):Turned S X X.drew:=⟨rfl,rfl,rfl,rfl,fun _ _=>rfl⟩
theorem a8w(w:World)(o o':Obj):(w.alloc o).putObj w.heap.size o'=w.alloc o':=by
 have h:∀A:Array Obj,(A.push o).setIfInBounds A.size o'=A.push o':=by
  intro A;apply Array.ext
  ·simp
  intro i h1 h2;rw[Array.getElem_setIfInBounds];split
  ·subst_vars;simp
  ·rename_i hne
   simp only[Array.size_push]at h2;rw[Array.getElem_push_lt om,Array.getElem_push_lt om]
  simpa using h1
 show ({w with heap:=(w.heap.push o).setIfInBounds w.heap.size o'}:World)={w with heap:=w.heap.push o'}
 rw[h]
def SeqOwn{α:Type}(F:Fence)(n:Nat)(P:Program)(gf:Nat)(lb:Array Value)(enc:α->Value)(S K:Nat->Prop)(St:World->Prop)(xs:List α):Prop:=
 ∀ (l:Nat) (J Jx:List α->World->Prop) (W:World),
  (∀pre X X',Turned S X X'->J pre X->J pre X')->
  (∀pre x X,pre++[x]<+:xs->J pre X->YieldAt F (n-1) P l #[enc x] X fun e X'=>
   (e= .returned (.bool true)/\J (pre++[x]) X'/\∀k,K k->X'.heap[k]? =X.heap[k]?)\/(e= .returned (.bool false)/\Jx (pre++[x]) X'))->
  St W->J [] W->
  CallsIn F n P gf (#[.func (.yield l) #[] #[]]++lb) W fun e W'=>(∃v,e= .returned v)/\(J xs W'\/∃pre,pre<+:xs/\Jx pre W')
def ahi{α:Type}(Kb:Nat->Prop)(I:List α->World->Prop)(Ix:Code->List α->World->Prop)(xs:List α)(X:World):Exit->Act->World->Prop
 | .normal,_,X'=>(∀k,Kb k->X'.heap[k]? =X.heap[k]?)/\I xs X'
 | .ret,_,X'=>(∀k,Kb k->X'.heap[k]? =X.heap[k]?)/\Ix .ret xs X'
 | .exit id,_,X'=>(∀k,Kb k->X'.heap[k]? =X.heap[k]?)/\Ix (.exit id) xs X'
 | .goto t,_,X'=>(∀k,Kb k->X'.heap[k]? =X.heap[k]?)/\Ix (.goto t) xs X'
 | .panic _,_,_=>False
 | .outgrown,_,_=>False
theorem aaY{F:Fence}{n:Nat}{P:Program}{α:Type}{g:Operand}{ps:Array Tmp}{assign body:Code}{Q:Exit->Act->World->Prop}{a:Act}{w:World}
  (h1:1<=n){gf:Nat}{lb:Array Value}(hg:a.eval g= .func (.func gf) #[] lb)(hFg:F.fn gf)(eg:∀args w,(callFunc gf args).run P w= .ok (.enter gf args) w)
  (R D ds:Nat)(d0:Option Obj)(mark:List Deferred)(W1:World)
  (henter:∀fn,(Instr.enterLoop fn a.tmps ps assign body F.round).run P w= .ok (R,mark) (W1.putObj R (.loop {state:=.ready,pending:=none,fn,tmps:=a.tmps,params:=ps,assign,body,defers:=ds})))
  (hR:R<W1.heap.size)(hRD:D≠R)(hd:W1.heap[D]? =d0)
  {enc:α->Value}{S K:Nat->Prop}{St:World->Prop}{xs:List α}(hseq:SeqOwn F (n-1) P gf lb enc S K St xs)(hps:ps.size=1)
  (hSR:∀k,S k->k≠R/\k≠D)(hKR:∀k,K k->k≠R)(hSt:∀X,Turned (fun k=>k=R) W1 X->St X)
  (I:List α->World->Prop)(Ix:Code->List α->World->Prop)(hI:∀pre X X',Turned (fun k=>S k\/k=R) X X'->I pre X->I pre X')
  (hIx:∀c pre X X',Turned (fun k=>k=R) X X'->Ix c pre X->Ix c pre X')(h0:I [] W1)(a₁:α->Act)
  (hassign:∀(m:Nat) (x:α) (W:World) (K:Act->World->Prop),K (a₁ x) W->
   assign.wpIn (F.inRound R) m P (Exit.then K (fun _ _ _=>False)) {tmps:=(ps.zip #[enc x]).foldl (fun t (p,v)=>t.setIfInBounds p v) a.tmps,defers:=[]} W)
  (hbody:∀(pre:List α) (x:α) (X:World),pre++[x]<+:xs->I pre X->(∃r,X.heap[R]? =some (.loop r))->X.heap[D]? =d0->
   body.wpIn (F.inRound R) (n-1-1) P (ahi (fun k=>k=R\/k=D\/K k) I Ix (pre++[x]) X) (a₁ x) X)
  (hdone:∀(W:World),I xs W->W.heap[D]? =d0->Q .normal {a with defers:=mark++a.defers} W)
  (hstop:∀(c:Code) (pre:List α) (W:World),pre<+:xs->Ix c pre W->W.heap[D]? =d0->c.wpIn F n P Q {a with defers:=mark++a.defers} W):
  (Code.rangeFunc g ps assign body).wpIn F n P Q a w:=by
 refine wpIn_rangeFunc ?_;intro fn hfn;obtain⟨rec,hrec⟩:∃rec:LoopState->Option Code->Loop,rec=fun st pe=>{state:=st,pending:=pe,fn,tmps:=a.tmps,params:=ps,assign,body,defers:=ds}:=⟨_,rfl⟩
 have hen:=henter fn;obtain⟨W2,hW2⟩:∃W2,W1.putObj R (.loop (rec .ready none))=W2:=⟨_,rfl⟩
 have ht2:Turned (fun k=>k=R) W1 W2:=by rw[<-hW2];exact a2u _ _ _ rfl
 have hL2:W2.heap[R]? =some (.loop (rec .ready none)):=by rw[<-hW2];exact World.putObj_heap_same hR
 have hD2:W2.heap[D]? =d0:=(ht2.block D hRD).trans hd
 have hen2:(Instr.enterLoop fn a.tmps ps assign body F.round).run P w= .ok (R,mark) W2:=by rw[<-hW2,hrec];exact hen
 have hput:∀(A:World) (o:Obj),Turned (fun k=>k=R) A (A.putObj R o):=fun A o=>a2u _ _ _ rfl;have hoth:∀(A:World) (o:Obj) (k:Nat),k≠R->(A.putObj R o).heap[k]? =A.heap[k]? :=fun A o k hk=>World.putObj_heap_other hk
 refine⟨R,mark,W2,{target:=.fn (.func gf) lb,args:=#[.func (.yield R) #[] #[]]},W2,gf,#[.func (.yield R) #[] #[]]++lb,W2,hen2,?_,?_,?_,fun _=>h1,?_⟩
 ·simp only[resolve,hg];simp[go_sem]
 ·intro f' hf';simp[Target.leads]at hf';subst hf';exact hFg
 ·simp[invoke,go_sem,eg]
 refine(hseq R
  (fun pre W=>I pre W/\W.heap[R]? =some (.loop (rec .ready none))/\W.heap[D]? =d0)
  (fun pre W=>∃c,Ix c pre W/\W.heap[R]? =some (.loop (rec .done (some c)))/\W.heap[D]? =d0)
  W2 (fun pre X X' ht h=>⟨hI _ _ _ (ht.mono fun k hk=>.inl hk) h.1,(ht.block _ fun hk=>(hSR _ hk).1 rfl).trans h.2.1,(ht.block _ fun hk=>(hSR _ hk).2 rfl).trans h.2.2⟩)
  ?_ (hSt _ ht2) ⟨hI _ _ _ (ht2.mono fun k hk=>.inr hk) h0,hL2,hD2⟩).mono ?_
 ·rintro pre x X hpre ⟨hi,hl,hk⟩;have hlt:R<X.heap.size:=(aog.1 hl).1
  have hy:=run_yield (P:=P) (args:=#[enc x]) hl (by rw[hrec];exact hps.symm);rw[hrec]at hy;refine⟨fn,_,assign,body,hy,roundIn_of_wpIn hfn (hassign _ x X _ ⟨_,run_beginRound hl (by rw[hrec]),?_⟩)⟩;have hl2:(X.putObj R (.loop {rec .ready none with state:=.busy})).heap[R]? =some (.loop {rec .ready none with state:=.busy}):=World.putObj_heap_same hlt
  have hk2:(X.putObj R (.loop {rec .ready none with state:=.busy})).heap[D]? =d0:=(hoth _ _ _ hRD).trans hk
  refine wpIn_mono (hbody pre x _ hpre (hI _ _ _ ((hput _ _).mono fun k hk=>.inr hk) hi) ⟨_,hl2⟩ hk2) ?_
  have fin:∀(jump:Option Code) (W3:World),(∀k,k=R\/k=D\/K k->W3.heap[k]? =(X.putObj R (.loop {rec .ready none with state:=.busy})).heap[k]?)->
    (Instr.endRound R jump).run P W3= .ok (.bool jump.isNone) (W3.putObj R (.loop (rec (if jump.isNone then .ready else .done) jump)))/\
    (W3.putObj R (.loop (rec (if jump.isNone then .ready else .done) jump))).heap[R]? =some (.loop (rec (if jump.isNone then .ready else .done) jump))/\
    (W3.putObj R (.loop (rec (if jump.isNone then .ready else .done) jump))).heap[D]? =d0:=fun jump W3 hk3=>by
   have hl3:=(hk3 R (.inl rfl)).trans hl2
   have:=run_endRound (P:=P) jump hl3;rw[hrec]at this⊢;exact⟨this,World.putObj_heap_same (aog.1 hl3).1,(hoth _ _ _ hRD).trans ((hk3 D (.inr (.inl rfl))).trans hk2)⟩
  rintro e a3 W3 hp;cases e with
  |normal=>
   obtain⟨hk3,hi3⟩:=hp;obtain⟨hr,hl4,hk4⟩:=fin none W3 hk3;exact⟨_,_,hr,.inl ⟨rfl,⟨hI _ _ _ ((hput _ _).mono fun k hk=>.inr hk) hi3,hl4,hk4⟩,fun k hK=>((hoth _ _ _ (hKR k hK)).trans (hk3 k (.inr (.inr hK)))).trans (hoth _ _ _ (hKR k hK))⟩⟩
  |ret=>
   obtain⟨hk3,hi3⟩:=hp;obtain⟨hr,hl4,hk4⟩:=fin (some .ret) W3 hk3;exact⟨_,_,hr,.inr ⟨rfl,.ret,hIx _ _ _ _ (hput _ _) hi3,hl4,hk4⟩⟩
  |exit id=>
   obtain⟨hk3,hi3⟩:=hp;obtain⟨hr,hl4,hk4⟩:=fin (some (.exit id)) W3 hk3;exact⟨_,_,hr,.inr ⟨rfl,.exit id,hIx _ _ _ _ (hput _ _) hi3,hl4,hk4⟩⟩
  |goto t=>
   obtain⟨hk3,hi3⟩:=hp;obtain⟨hr,hl4,hk4⟩:=fin (some (.goto t)) W3 hk3;exact⟨_,_,hr,.inr ⟨rfl,.goto t,hIx _ _ _ _ (hput _ _) hi3,hl4,hk4⟩⟩
  |panic ch=>exact hp.elim
  |outgrown=>exact hp.elim
 rintro e W3 ⟨⟨v,rfl⟩,(⟨hi,hl,hk⟩|⟨pre,hpre,c,hi,hl,hk⟩)⟩
 ·exact⟨none,_,by have:=run_endLoop (P:=P) hl (by rw[hrec];simp);rw[hrec]at this;exact this,hdone _ (hI _ _ _ ((hput _ _).mono fun k hk=>.inr hk) hi) ((hoth _ _ _ hRD).trans hk)⟩
 exact⟨some c,_,by have:=run_endLoop (P:=P) hl (by rw[hrec];simp);rw[hrec]at this;exact this,hstop c pre _ hpre (hIx _ _ _ _ (hput _ _) hi) ((hoth _ _ _ hRD).trans hk)⟩
theorem acs{F:Fence}{n:Nat}{P:Program}{α:Type}{g:Operand}{ps:Array Tmp}{assign body:Code}{Q:Exit->Act->World->Prop}{a:Act}{w:World}
  (hro:F.round=none)(h1:1<=n){gf:Nat}{lb:Array Value}(hg:a.eval g= .func (.func gf) #[] lb)(hFg:F.fn gf)(eg:∀args w,(callFunc gf args).run P w= .ok (.enter gf args) w)
  {enc:α->Value}{S K:Nat->Prop}{St:World->Prop}{xs:List α}(hseq:SeqOwn F (n-1) P gf lb enc S K St xs)(hps:ps.size=1)
  (hS:∀k,S k->k<w.heap.size)(hK:∀k,K k->k<w.heap.size)(hSt:∀X,Below w.heap.size w X->St X)
  (I:List α->World->Prop)(Ix:Code->List α->World->Prop)(hI:∀pre X X',Turned (fun k=>S k\/k=w.heap.size+1) X X'->I pre X->I pre X')
  (hIx:∀c pre X X',Turned (fun k=>k=w.heap.size+1) X X'->Ix c pre X->Ix c pre X')(h0:∀X,Below w.heap.size w X->X.heap.size=w.heap.size+2->I [] X)(a₁:α->Act)
  (hassign:∀(l m:Nat) (x:α) (W:World) (K:Act->World->Prop),K (a₁ x) W->
   assign.wpIn (F.inRound l) m P (Exit.then K (fun _ _ _=>False)) {tmps:=(ps.zip #[enc x]).foldl (fun t (p,v)=>t.setIfInBounds p v) a.tmps,defers:=[]} W)
  (hbody:∀(pre:List α) (x:α) (X:World),pre++[x]<+:xs->I pre X->(∃r,X.heap[w.heap.size+1]? =some (.loop r))->X.heap[w.heap.size]? =some (.deferred (some []))->
   body.wpIn (F.inRound (w.heap.size+1)) (n-1-1) P (ahi (fun k=>k=w.heap.size+1\/k=w.heap.size\/K k) I Ix (pre++[x]) X) (a₁ x) X)
  (hdone:∀(W:World),I xs W->W.heap[w.heap.size]? =some (.deferred (some []))->Q .normal {a with defers:={target:=.collected w.heap.size,args:=#[]}::a.defers} W)
  (hstop:∀(c:Code) (pre:List α) (W:World),pre<+:xs->Ix c pre W->W.heap[w.heap.size]? =some (.deferred (some []))->c.wpIn F n P Q {a with defers:={target:=.collected w.heap.size,args:=#[]}::a.defers} W):
  (Code.rangeFunc g ps assign body).wpIn F n P Q a w:=by
 have hbw:∀o o',Below w.heap.size w ((w.alloc o).alloc o'):=fun o o'=>(((aoi _ w).alloc (aof _) _).alloc oz _)
 refine aaY (R:=w.heap.size+1) (D:=w.heap.size) (ds:=w.heap.size) (d0:=some (.deferred (some []))) (mark:=[{target:=.collected w.heap.size,args:=#[]}])
  (W1:=(w.alloc (.deferred (some []))).alloc (.deferred (some []))) h1 hg hFg eg ?_ oz om ?_ hseq hps
  (fun k hk=>by have:=hS k hk;omega) (fun k hk=>by have:=hK k hk;omega) (fun X hX=>hSt X ((hbw _ _).trans (hX.below (fun k hk=>om)))) I Ix hI hIx (h0 _ (hbw _ _) oz) a₁ (fun m=>hassign _ m) hbody hdone hstop
 ·intro fn;rw[hro];have h:=run_enterLoop_outer (P:=P) (w:=w) fn a.tmps ps assign body;rw[h];have e:=a8w (w.alloc (.deferred (some []))) (.deferred (some [])) (.loop {state:=.ready,pending:=none,fn,tmps:=a.tmps,params:=ps,assign,body,defers:=w.heap.size});rw[aoq]at e;rw[e]
 exact(aop _ _ _ oz).trans (World.alloc_heap_new w _)
theorem ajF{F:Fence}{n:Nat}{P:Program}{α:Type}{g:Operand}{ps:Array Tmp}{assign body:Code}{Q:Exit->Act->World->Prop}{a:Act}{w:World}
  {l₀:Nat}{r₀:Loop}(hro:F.round=some l₀)(hl₀:w.heap[l₀]? =some (.loop r₀))(h1:1<=n){gf:Nat}{lb:Array Value}(hg:a.eval g= .func (.func gf) #[] lb)(hFg:F.fn gf)(eg:∀args w,(callFunc gf args).run P w= .ok (.enter gf args) w)
  {enc:α->Value}{S K:Nat->Prop}{St:World->Prop}{xs:List α}(hseq:SeqOwn F (n-1) P gf lb enc S K St xs)(hps:ps.size=1)
  (hS:∀k,S k->k<w.heap.size/\k≠l₀)(hK:∀k,K k->k<w.heap.size)(hSt:∀X,Below w.heap.size w X->St X)
  (I:List α->World->Prop)(Ix:Code->List α->World->Prop)(hI:∀pre X X',Turned (fun k=>S k\/k=w.heap.size) X X'->I pre X->I pre X')
  (hIx:∀c pre X X',Turned (fun k=>k=w.heap.size) X X'->Ix c pre X->Ix c pre X')(h0:∀X,Below w.heap.size w X->X.heap.size=w.heap.size+1->I [] X)(a₁:α->Act)
  (hassign:∀(l m:Nat) (x:α) (W:World) (K:Act->World->Prop),K (a₁ x) W->
   assign.wpIn (F.inRound l) m P (Exit.then K (fun _ _ _=>False)) {tmps:=(ps.zip #[enc x]).foldl (fun t (p,v)=>t.setIfInBounds p v) a.tmps,defers:=[]} W)
  (hbody:∀(pre:List α) (x:α) (X:World),pre++[x]<+:xs->I pre X->(∃r,X.heap[w.heap.size]? =some (.loop r))->
   body.wpIn (F.inRound w.heap.size) (n-1-1) P (ahi (fun k=>k=w.heap.size\/k=l₀\/K k) I Ix (pre++[x]) X) (a₁ x) X)
  (hdone:∀(W:World),I xs W->W.heap[l₀]? =w.heap[l₀]? ->Q .normal a W)
  (hstop:∀(c:Code) (pre:List α) (W:World),pre<+:xs->Ix c pre W->W.heap[l₀]? =w.heap[l₀]? ->c.wpIn F n P Q a W):
  (Code.rangeFunc g ps assign body).wpIn F n P Q a w:=by
 have hlt:l₀<w.heap.size:=(aog.1 hl₀).1
 have hbw:∀o,Below w.heap.size w (w.alloc o):=fun o=>((aoi _ w).alloc (aof _) _)
 refine aaY (R:=w.heap.size) (D:=l₀) (ds:=r₀.defers) (d0:=w.heap[l₀]?) (mark:=[]) (W1:=w.alloc (.deferred (some []))) h1 hg hFg eg ?_ oz om ((hbw _).block _ hlt) hseq hps
  (fun k hk=>by have:=hS k hk;omega) (fun k hk=>by have:=hK k hk;omega) (fun X hX=>hSt X ((hbw _).trans (hX.below (fun k hk=>om)))) I Ix hI hIx (h0 _ (hbw _) oz) a₁ (fun m=>hassign _ m)
  (fun pre x X hp hi hr _=>hbody pre x X hp hi hr) hdone hstop
 intro fn;rw[hro,run_enterLoop_inner hl₀,a8w]
end Go.Proofs.YtdfkaijeppdhaaaGreatDoor
