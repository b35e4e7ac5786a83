/- Part of the proof. -/
import Derived.Test.YtdfkaijeppdhaaaGreatDoorZHs01
import Derived.OrdersIn
import Derived.OwnWalkIn
import Derived.RangeFuncNested
set_option maxRecDepth 100000
set_option maxHeartbeats 8000000

namespace Go.Proofs.YtdfkaijeppdhaaaGreatDoor
open Go.RowKit
theorem a0p{W:World}{b j:Nat}{A:Array Value}{T:TypeId}{fr:Nat×Nat}{v:Value}(h:W.heap[b]? =some (.cells A T fr)):(W.setCell ⟨b,j,none⟩ v).heap[b]? =some (.cells (A.setIfInBounds j v) T fr):=by
 obtain⟨hlt,hk⟩:=aog.1 h;show (W.heap.modify b _)[b]? =_;rw[aoD (by rw[apm];exact hlt),ap0,hk];simp
theorem a01{W:World}{b j k:Nat}{v:Value}(h:k≠b):(W.setCell ⟨b,j,none⟩ v).heap[k]? =W.heap[k]? :=aok _ _ _ _ h
structure Tab(TO TG:TypeId)(E base O n m:Nat)(OK:Nat->Nat->Nat->Value->Prop)(G:Nat->Nat)(lo kk:Nat)(w:World):Prop where
 rows:∃A:Array Value,w.heap[O]? =some (.cells A TO (0,0))/\A.size=n+1/\∀i,lo<=i->i<=n->A[i]? =some (.slice (some ⟨G i,0,none⟩) (m+1) (m+1))
 row:∀i,lo<=i->i<=n->∃A:Array Value,w.heap[G i]? =some (.cells A TG (0,0))/\A.size=(m+1) * E/\∀k e,k<=m->e<E->(lo<i\/kk<=k)->∃v,A[k * E+e]? =some v/\OK i k e v
 sep:∀i,lo<=i->i<=n->G i≠O/\base<=G i
 inj:∀i j,lo<=i->i<=n->lo<=j->j<=n->i≠j->G i≠G j
 top:base<=O
section
variable{TO TG:TypeId}{E base O n m:Nat}{OK:Nat->Nat->Nat->Value->Prop}{G:Nat->Nat}{lo kk:Nat}{w:World}
theorem Tab.lt(h:Tab TO TG E base O n m OK G lo kk w):O<w.heap.size:=by
 obtain⟨A,h1,_⟩:=h.rows;exact(aog.1 h1).1
theorem Tab.ltG(h:Tab TO TG E base O n m OK G lo kk w){i:Nat}(h1:lo<=i)(h2:i<=n):G i<w.heap.size:=by
 obtain⟨A,h3,_⟩:=h.row i h1 h2;exact(aog.1 h3).1
theorem Tab.keep{w':World}(h:Tab TO TG E base O n m OK G lo kk w)(hO:w'.heap[O]? =w.heap[O]?)(hG:∀i,lo<=i->i<=n->w'.heap[G i]? =w.heap[G i]?):Tab TO TG E base O n m OK G lo kk w':=by
 refine⟨?_,fun i h1 h2=>?_,h.sep,h.inj,h.top⟩
 ·obtain⟨A,h1,h2⟩:=h.rows;exact⟨A,hO.trans h1,h2⟩
 obtain⟨A,h3,h4⟩:=h.row i h1 h2;exact⟨A,(hG i h1 h2).trans h3,h4⟩
theorem Tab.below{w':World}(h:Tab TO TG E base O n m OK G lo kk w)(hb:Below w.heap.size w w'):Tab TO TG E base O n m OK G lo kk w':=
 h.keep (hb.block _ h.lt) fun _ h1 h2=>hb.block _ (h.ltG h1 h2)
theorem Tab.look(h:Tab TO TG E base O n m OK G lo kk w){i:Nat}(h1:lo<=i)(h2:i<=n):w.cell? ⟨O,i,none⟩=some (.slice (some ⟨G i,0,none⟩) (m+1) (m+1)):=by
 obtain⟨A,h3,_,h5⟩:=h.rows;exact heap_cell h3 (h5 i h1 h2)
theorem Tab.entry(h:Tab TO TG E base O n m OK G lo kk w){i k e:Nat}(h1:lo<=i)(h2:i<=n)(h3:k<=m)(h4:e<E)(h5:lo<i\/kk<=k):∃v,w.cell? ⟨G i,k * E+e,none⟩=some v/\OK i k e v:=by
 obtain⟨A,h6,_,h7⟩:=h.row i h1 h2;obtain⟨v,h8,h9⟩:=h7 k e h3 h4 h5;exact⟨v,heap_cell h6 h8,h9⟩
theorem Tab.frozenO(h:Tab TO TG E base O n m OK G lo kk w)(i:Nat):w.frozen? ⟨O,i,none⟩=false:=by
 obtain⟨A,h3,_,h5⟩:=h.rows;simp[World.frozen?,h3]
theorem Tab.frozenG(h:Tab TO TG E base O n m OK G lo kk w){i:Nat}(h1:lo<=i)(h2:i<=n)(j:Nat):w.frozen? ⟨G i,j,none⟩=false:=by
 obtain⟨A,h3,_⟩:=h.row i h1 h2;simp[World.frozen?,h3]
theorem Tab.holdO(h:Tab TO TG E base O n m OK G lo kk w){i:Nat}(hi:i<=n):∃v,w.cell? ⟨O,i,none⟩=some v:=by
 obtain⟨A,h3,h4,_⟩:=h.rows;exact⟨A[i]' om,heap_cell h3 (aoD om)⟩
theorem Tab.holdG(h:Tab TO TG E base O n m OK G lo kk w){i j:Nat}(h1:lo<=i)(h2:i<=n)(hj:j<(m+1) * E):∃v,w.cell? ⟨G i,j,none⟩=some v:=by
 obtain⟨A,h3,h4,_⟩:=h.row i h1 h2;exact⟨A[j]' om,heap_cell h3 (aoD om)⟩
theorem Tab.start{A:Array Value}(hO:w.heap[O]? =some (.cells A TO (0,0)))(hA:A.size=n+1)(hb:base<=O)(G:Nat->Nat)(kk:Nat):Tab TO TG E base O n m OK G (n+1) kk w:=
 ⟨⟨A,hO,hA,fun i h1 h2=>om⟩,fun i h1 h2=>om,fun i h1 h2=>om,fun i j h1 h2=>om,hb⟩
def a2H(G:Nat->Nat)(i g:Nat):Nat->Nat:=fun j=>if j=i then g else G j
theorem a1n(G:Nat->Nat)(i g:Nat):a2H G i g i=g:=by simp[a2H]
theorem a0N(G:Nat->Nat){i j:Nat}(g:Nat)(h:j≠i):a2H G i g j=G j:=by simp[a2H,h]
theorem Tab.more{w':World}{g:Nat}{B:Array Value}(h:Tab TO TG E base O n m OK G (lo+1) 0 w)(hlo:lo<=n)(hg:w.heap.size<=g)(hgs:w'.heap[g]? =some (.cells B TG (0,0)))(hB:B.size=(m+1) * E)(hO:∀A,w.heap[O]? =some (.cells A TO (0,0))->w'.heap[O]? =some (.cells (A.setIfInBounds lo (.slice (some ⟨g,0,none⟩) (m+1) (m+1))) TO (0,0)))
  (hk:∀k,k<w.heap.size->k≠O->w'.heap[k]? =w.heap[k]?):Tab TO TG E base O n m OK (a2H G lo g) lo (m+1) w':=by
 have hOl:=h.lt;have ht:=h.top;refine⟨?_,fun i h1 h2=>?_,fun i h1 h2=>?_,fun i j h1 h2 h3 h4 h5=>?_,h.top⟩
 ·obtain⟨A,h1,h2,h3⟩:=h.rows;refine⟨_,hO A h1,by simpa using h2,fun i h4 h5=>?_⟩;by_cases e:i=lo
  ·subst e;rw[a1n,app om]
  rw[a0N _ _ e,apb om];exact h3 i om h5
 ·by_cases e:i=lo
  ·subst e;rw[a1n];exact⟨B,hgs,hB,fun k e h3 h4 h5=>om⟩
  rw[a0N _ _ e];have hl:=h.ltG (i:=i) om h2;obtain⟨A,h3,h4,h5⟩:=h.row i om h2;exact⟨A,(hk _ hl (h.sep i om h2).1).trans h3,h4,fun k e h6 h7 _=>h5 k e h6 h7 (.inr (aot _))⟩
 ·by_cases e:i=lo
  ·subst e;rw[a1n];omega
  rw[a0N _ _ e];exact h.sep i om h2
 by_cases e:i=lo
 ·subst e;rw[a1n,a0N _ _ (Ne.symm h5)];have:=h.ltG (i:=j) om h4;omega
 by_cases e2:j=lo
 ·subst e2;rw[a1n,a0N _ _ e];have:=h.ltG (i:=i) om h2;omega
 rw[a0N _ _ e,a0N _ _ e2];exact h.inj i j om h2 om h4 h5
theorem Tab.put{w':World}(h:Tab TO TG E base O n m OK G lo (kk+1) w)(hlo:lo<=n)(hkk:kk<=m)(hG:∀A,w.heap[G lo]? =some (.cells A TG (0,0))->∃B,w'.heap[G lo]? =some (.cells B TG (0,0))/\B.size=A.size/\(∀j,(j<kk * E\/(kk+1) * E<=j)->B[j]? =A[j]?)/\∀e,e<E->∃v,B[kk * E+e]? =some v/\OK lo kk e v)
  (hk:∀k,k<w.heap.size->k≠G lo->w'.heap[k]? =w.heap[k]?):Tab TO TG E base O n m OK G lo kk w':=by
 refine⟨?_,fun i h1 h2=>?_,h.sep,h.inj,h.top⟩
 ·obtain⟨A,h1,h2,h3⟩:=h.rows;exact⟨A,(hk O h.lt (Ne.symm (h.sep lo (aof _) hlo).1)).trans h1,h2,h3⟩
 obtain⟨A,h3,h4,h5⟩:=h.row i h1 h2;by_cases e:i=lo
 ·subst e;obtain⟨B,h6,h7,h8,h9⟩:=hG A h3;refine⟨B,h6,h7.trans h4,fun k e h10 h11 h12=>?_⟩;by_cases ek:k=kk
  ·subst ek;exact h9 e h11
  have hle:(kk+1) * E<=k * E:=apC _ om;rw[h8 _ (.inr om)];exact h5 k e h10 h11 (.inr om)
 refine⟨A,(hk _ (h.ltG h1 h2) (h.inj i lo h1 h2 (aof _) hlo e)).trans h3,h4,fun k e h10 h11 _=>h5 k e h10 h11 (.inl om)⟩
end
def a5J(ops:Array Oper):Bool:=ops.all fun o=>match o.op with| .defer _=>false|_=>true
theorem afl{ops:Array Oper}(h:a5J ops=true){i:Nat}{o:Oper}(ho:ops[i]? =some o):∀c,o.op≠ .defer c:=by
 intro c hc;unfold a5J at h;obtain⟨hi,rfl⟩:=aog.1 ho;have:=(Array.all_eq_true.1 h) i hi;rw[hc]at this;cases this
theorem afm{P:Program}{o:Oper}{a:Act}{next next' K:Act->World->Prop}{Q:Exit->Act->World->Prop}{n l:Nat}(hn:∀a w,next a w->next' a w){r:Result Next}
  (h:o.upon P a next (Exit.then K fun _ _ _=>False) r):o.uponIn (Fence.wide.inRound l) n P a next' Q r:=by
 have hd:∀m:Nat,(Fence.wide.inRound l).depth.isSome=true->1<=m:=fun m h=>by simp[Fence.wide]at h
 cases r with
 | ok x w'=>
  cases x<;>simp only[Oper.upon,Oper.uponIn]at h⊢
  case value v=>exact hn _ _ h
  case skip=>exact hn _ _ h
  case defer d=>exact hn _ _ h
  case enter f args=>
   refine⟨hd n,CallsIn.inRound l (callsIn_wide.2 (Calls.mono h fun e w'' he=>?_))⟩;cases e with
   |returned v=>exact hn _ _ he
   |panicked chain=>exact(he:False).elim
   |outgrown=>obtain⟨_,_,h'⟩:=he;exact(h':False).elim
  case row row args=>exact⟨hd n,fun c cs _=>let ⟨v,w'',r,s⟩:=h c cs;⟨v,w'',hn _ _ r,stepsIn_wide.2 s⟩⟩
 |halt x w'=>
  cases x<;>simp only[Oper.upon,Oper.uponIn]at h⊢
  exact(h:False).elim
theorem afn{P:Program}{ops:Array Oper}{K next next':Act->World->Prop}{Q:Exit->Act->World->Prop}{n l i:Nat}{a:Act}{w:World}(hnd:a5J ops=true)(hn:∀a w,next a w->next' a w)
  (h:wpOp P ops (Exit.then K fun _ _ _=>False) i next a w):wpOpIn (Fence.wide.inRound l) n P ops Q i next' a w:=by
 unfold wpOp at h;unfold wpOpIn;cases ho:ops[i]? with
 |none=>rw[ho]at h;exact hn _ _ h
 | some o=>
  simp only[ho]at h⊢;split
  ·rename_i hw
   simp only[hw,if_true]at h;rcases h with h|⟨_,a',w',h'⟩
   ·refine⟨fun f _=>trivial,?_⟩;rw[Oper.semAt_eq _ _ _ (afl hnd ho)];exact afm hn h
   exact(h':False).elim
  rename_i hw
  simp only[hw]at h;exact⟨fun f _=>trivial,hn _ _ h⟩
theorem a8m{P:Program}{md:Region.Mode}{ops:Array Oper}{K:Act->World->Prop}{Q:Exit->Act->World->Prop}{n l:Nat}(hnd:a5J ops=true)(hK:∀a w,K a w->Q .normal a w):
  ∀(fuel:Nat) (listed:Array Bool) (a:Act) (w:World),wpAny P md ops (Exit.then K fun _ _ _=>False) fuel listed a w->wpAnyIn (Fence.wide.inRound l) n P md ops Q fuel listed a w
 |0,_,_,_,h=>⟨h.1,hK _ _ h.2⟩
 |fuel+1,_,_,_,h=>⟨fun h0=>hK _ _ (h.1 h0),fun i hi=>afn hnd (fun a' w' h'=>a8m hnd hK fuel _ a' w' h') (h.2 i hi)⟩
theorem ad5{P:Program}{id n l:Nat}{ops:Array Oper}{K:Act->World->Prop}{Q:Exit->Act->World->Prop}{a:Act}{w:World}(S:World->Prop)(hm:P.follows .mixedOrders=true)(hnd:a5J ops=true)(hK:∀a w,K a w->Q .normal a w)
  (h:wpAnyH P .any ops (Exit.then K fun _ _ _=>False) S ops.size (Array.replicate ops.size false) a w.drew):(Code.region id ops true).wpIn (Fence.wide.inRound l) n P Q a w:=
 wpIn_region_any hm (a8m hnd hK _ _ _ _ (wpAny_of_held _ _ _ _ h))
def MarksAt(B:Nat)(ms:List Nat)(W:World):Prop:=ms.Nodup/\∀D∈ms,B<=D/\W.heap[D]? =some (.deferred (some []))
def adX(D:Nat):Deferred:={target:=.collected D,args:=#[]}
theorem MarksAt.nil(B:Nat)(W:World):MarksAt B [] W:=⟨List.nodup_nil,fun D h=>by simp at h⟩
theorem MarksAt.cons{B D:Nat}{ms:List Nat}{W:World}(h:MarksAt B ms W)(hB:B<=D)(hD:W.heap[D]? =some (.deferred (some [])))(hn:D∉ms):MarksAt B (D::ms) W:=
 ⟨List.nodup_cons.2 ⟨hn,h.1⟩,fun x hx=>by
  rcases aov.1 hx with rfl|hx
  ·exact⟨hB,hD⟩
  exact h.2 x hx⟩
theorem MarksAt.kept{B:Nat}{ms:List Nat}{W W':World}(h:MarksAt B ms W)(hk:∀D∈ms,W'.heap[D]? =W.heap[D]?):MarksAt B ms W':=
 ⟨h.1,fun D hD=>⟨(h.2 D hD).1,(hk D hD).trans (h.2 D hD).2⟩⟩
theorem a8n{P:Program}{n:Nat}{fn:Func}{tmps:Array Value}{R:Ending->World->Prop}{B:Nat}:∀(ms:List Nat) (W:World),MarksAt B ms W->
  (∀W',(∀k,k∉ms->W'.heap[k]? =W.heap[k]?)->W.heap.size<=W'.heap.size->Below B W W'->LeavesIn Fence.wide n P fn tmps R [] .returning W')->
  LeavesInM Fence.wide n P fn tmps R (ms.map adX) .returning W
 |[],W,_,h=>h W (fun _ _=>rfl) (aof _) (aoi _ _)
 |D::ms,W,hm,h=>by
  obtain⟨hn,hall⟩:=hm;rw[List.nodup_cons]at hn;obtain⟨hBD,hD⟩:=hall D oz;refine⟨by simp,.inl ⟨D,_,rfl,run_takeDeferred hD,?_⟩⟩;have hoth:∀k,k≠D->(W.putObj D (.deferred none)).heap[k]? =W.heap[k]? :=fun k hk=>World.putObj_heap_other hk
  refine a8n ms _ ⟨hn.2,fun x hx=>⟨(hall x (by simp[hx])).1,(hoth x (fun e=>hn.1 (e▸hx))).trans (hall x (by simp[hx])).2⟩⟩ fun W' h1 h2 h3=>?_;refine h W' (fun k hk=>(h1 k (fun h'=>hk (by simp[h']))).trans (hoth k (fun e=>hk (by simp[e])))) (aor oz h2) ?_;exact((aoi B W).grown (grownBy_putObj' W D (.deferred none)) (by have:=(aog.1 hD).1;omega) (fun k e=>by cases e;exact hBD)).trans h3
end Go.Proofs.YtdfkaijeppdhaaaGreatDoor
