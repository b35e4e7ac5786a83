/- Part of the proof. -/
import Derived.Test.YtdfkaijeppdhaaaGreatDoorZHt06
import Derived.Deep.RegionHeld3
import Derived.Stop.Asserts

set_option maxRecDepth 100000
set_option maxHeartbeats 8000000

namespace Go.Proofs.YtdfkaijeppdhaaaGreatDoor
open Go.RowKit Go.Shelf
theorem Tryz.keyedStr:Maps.Keyed Tryz.prog 9:=Maps.string_keyed Tryz.underlying9
def anP(s:ByteArray):Lit:=.string s.data.toList
theorem a5i{s:ByteArray}(hs:s.size<=1000000):keyOf Tryz.prog 9 (.string s)=some (anP s):=WideMaps.keyOf_string_mk Tryz.underlying9 (by unfold maxLen;omega)
theorem a81{s t:ByteArray}(h:anP s=anP t):s=t:=by
 unfold anP at h;injection h with h
 exact ba_ext h
theorem a9V(s:ByteArray):WideAt.IsKeyLit (anP s):=trivial
def anZ(v:Value):Option (DataW Value×List MemPlace):=some (.held v,[])
def TxtView(D:DataW Value)(f:ByteArray->Option ByteArray):Prop:=Maps.IsMap D/\∀s,Maps.has D (anP s)=(f s).isSome/\∀t,f s=some t->∀z,D.atKey (anP s) z= .held (.string t)
def StkView(D:DataW Value)(g:ByteArray->Int):Prop:=Maps.IsMap D/\∀s,D.atKey (anP s) (.held (.int .i64 0))= .held (.int .i64 (g s))
theorem TxtView.put{D:DataW Value}{f:ByteArray->Option ByteArray}(h:TxtView D f)(n t:ByteArray):TxtView (D.put (anP n) (.held (.string t))) (upd f n (some t)):=by
 refine⟨h.1.put _ _,fun s=>?_⟩;by_cases e:s=n
 ·subst e;rw[a5C];exact⟨Maps.has_put_same h.1 (a9V _) _,fun t' ht z=>by cases ht;exact Maps.atKey_put_same h.1 (a9V _) _ _⟩
 have hk:anP s≠anP n:=fun e2=>e (a81 e2);rw[a6o _ _ e,Maps.has_put_other hk];exact⟨(h.2 s).1,fun t' ht z=>by rw[Maps.atKey_put_other hk];exact(h.2 s).2 t' ht z⟩
theorem TxtView.del{D:DataW Value}{f:ByteArray->Option ByteArray}(h:TxtView D f)(n:ByteArray):TxtView (D.del (anP n)) (upd f n none):=by
 refine⟨h.1.del _,fun s=>?_⟩;by_cases e:s=n
 ·subst e;rw[a5C];exact⟨Maps.has_del_same,fun t' ht=>by cases ht⟩
 have hk:anP s≠anP n:=fun e2=>e (a81 e2);rw[a6o _ _ e,Maps.has_del_other hk];exact⟨(h.2 s).1,fun t' ht z=>by rw[Maps.atKey_del_other hk];exact(h.2 s).2 t' ht z⟩
theorem StkView.put{D:DataW Value}{g:ByteArray->Int}(h:StkView D g)(n:ByteArray)(m:Int):StkView (D.put (anP n) (.held (.int .i64 m))) (upd g n m):=by
 refine⟨h.1.put _ _,fun s=>?_⟩;by_cases e:s=n
 ·subst e;rw[a5C];exact Maps.atKey_put_same h.1 (a9V _) _ _
 have hk:anP s≠anP n:=fun e2=>e (a81 e2);rw[a6o _ _ e,Maps.atKey_put_other hk];exact h.2 s
structure KnAt(w:World)(a b n:Nat)(k:Kn):Prop where
 ne:a≠b
 txt:∃D,w.ownsMap Tryz.prog 9 anZ a n D/\TxtView D k.txt
 stk:∃D,w.ownsMap Tryz.prog 9 anZ b n D/\StkView D k.stk
theorem a6z{W W':World}{M n:Nat}{D:DataW Value}(h:W.ownsMap Tryz.prog 9 anZ M n D)(hk:W'.heap[M]? =W.heap[M]?):W'.ownsMap Tryz.prog 9 anZ M n D:=by
 obtain⟨es,ck,hb,h⟩:=h;exact⟨es,ck,hk.trans hb,h⟩
theorem KnAt.keep{w w':World}{a b n:Nat}{k:Kn}(h:KnAt w a b n k)(ha:w'.heap[a]? =w.heap[a]?)(hb:w'.heap[b]? =w.heap[b]?):KnAt w' a b n k:=by
 obtain⟨D1,h1,v1⟩:=h.txt;obtain⟨D2,h2,v2⟩:=h.stk;exact⟨h.ne,⟨D1,a6z h1 ha,v1⟩,⟨D2,a6z h2 hb,v2⟩⟩
theorem KnAt.mono{w:World}{a b n:Nat}{k:Kn}(h:KnAt w a b n k):KnAt w a b (n+1) k:=
 ⟨h.ne,(by obtain⟨D,h1,h2⟩:=h.txt;exact⟨D,h1.mono (ama _),h2⟩),(by obtain⟨D,h1,h2⟩:=h.stk;exact⟨D,h1.mono (ama _),h2⟩)⟩
theorem KnAt.lt{w:World}{a b n:Nat}{k:Kn}(h:KnAt w a b n k):a<w.heap.size/\b<w.heap.size:=by
 obtain⟨D1,h1,v1⟩:=h.txt;obtain⟨D2,h2,v2⟩:=h.stk;exact⟨h1.lt,h2.lt⟩
theorem KnAt.below{w w':World}{a b n:Nat}{k:Kn}(h:KnAt w a b n k)(hb:Below w.heap.size w w'):KnAt w' a b n k:=h.keep (hb.block _ h.lt.1) (hb.block _ h.lt.2)
theorem KnAt.new(w:World):KnAt ((w.alloc (.map #[] 0)).alloc (.map #[] 0)) w.heap.size (w.heap.size+1) 0 kn0:=by
 have h2:=World.ownsMap_made (w.alloc (.map #[] 0)) Tryz.prog 9 anZ;rw[apG]at h2;exact⟨by omega,⟨_,(World.ownsMap_made w Tryz.prog 9 anZ).alloc _,Maps.isMap_empty,fun s=>⟨rfl,fun t h=>by cases h⟩⟩,⟨_,h2,Maps.isMap_empty,fun s=>rfl⟩⟩
theorem aiS(w:World):(zeroValue 9).run Tryz.prog w= .ok (.string ⟨#[]⟩) w:=by
 have h:(Tryz.prog.info? 9).map (fun i=>i.zero)=some (some (.string ⟨#[]⟩)):=by kernel_rfl
 obtain⟨i,hi,hz⟩:=Option.map_eq_some_iff.1 h;simp[zeroValue,typeInfo,Sem.run_bind,run_program,Result.andThen,hi,hz]
theorem aiT(w:World):(zeroValue 3).run Tryz.prog w= .ok (.int .i64 0) w:=by
 have h:(Tryz.prog.info? 3).map (fun i=>i.zero)=some (some (.int .i64 0)):=by kernel_rfl
 obtain⟨i,hi,hz⟩:=Option.map_eq_some_iff.1 h;simp[zeroValue,typeInfo,Sem.run_bind,run_program,Result.andThen,hi,hz]
def aoA(o:Option ByteArray):Value:=.tuple #[.string (o.getD emp),.bool o.isSome]
theorem KnAt.look{w:World}{a b n:Nat}{k:Kn}(h:KnAt w a b n k)(s:ByteArray)(hs:s.size<=1000000):
  (Instr.lookup 99 (.map (some a)) (.string s) true).run Tryz.prog w= .ok (aoA (k.txt s)) w:=by
 obtain⟨D,hD,hv⟩:=h.txt;obtain⟨v,ps,hrun,hr⟩:=hD.look_ok Tryz.keyedStr Tryz.underlying99 (aiS w) (show anZ (.string ⟨#[]⟩)=some (.held (.string ⟨#[]⟩),[])from rfl) (a5i hs);rw[hrun,(hv.2 s).1];simp only[anZ,Option.some.injEq,Prod.mk.injEq]at hr;unfold aoA;cases hx:k.txt s with
 |some t=>
  rw[(hv.2 s).2 t hx]at hr;obtain⟨h1,_⟩:=hr;cases h1
  rfl
 |none=>
  rw[Maps.atKey_of_not_has (by rw[(hv.2 s).1,hx];rfl)]at hr;obtain⟨h1,_⟩:=hr;cases h1
  rfl
theorem KnAt.lookI{w:World}{a b n:Nat}{k:Kn}(h:KnAt w a b n k)(s:ByteArray)(hs:s.size<=1000000):
  (Instr.lookup 100 (.map (some b)) (.string s) false).run Tryz.prog w= .ok (.int .i64 (k.stk s)) w:=by
 obtain⟨D,hD,hv⟩:=h.stk;obtain⟨v,ps,hrun,hr⟩:=hD.lookup Tryz.keyedStr Tryz.underlying100 (aiT w) (show anZ (.int .i64 0)=some (.held (.int .i64 0),[])from rfl) (a5i hs);rw[hrun];simp only[anZ,Option.some.injEq,Prod.mk.injEq]at hr;rw[hv.2 s]at hr;obtain⟨h1,_⟩:=hr;cases h1
 rfl
theorem KnAt.put{w w':World}{a b n:Nat}{k:Kn}(h:KnAt w a b n k){s t:ByteArray}{D:DataW Value}(hv:TxtView D k.txt)(hD:w'.ownsMap Tryz.prog 9 anZ a (n+1) (D.put (anP s) (.held (.string t))))(hg:w.grownBy w' (some a)):KnAt w' a b (n+1) ⟨upd k.txt s (some t),k.stk⟩:=by
 obtain⟨D2,h2,v2⟩:=h.stk;exact⟨h.ne,⟨_,hD,hv.put s t⟩,⟨D2,(h2.kept hg (by simpa using h.ne.symm)).mono (ama _),v2⟩⟩
theorem KnAt.add{w w':World}{a b n:Nat}{k:Kn}(h:KnAt w a b n k){s:ByteArray}{m:Int}{D:DataW Value}(hv:StkView D k.stk)(hD:w'.ownsMap Tryz.prog 9 anZ b (n+1) (D.put (anP s) (.held (.int .i64 m))))(hg:w.grownBy w' (some b)):KnAt w' a b (n+1) ⟨k.txt,upd k.stk s m⟩:=by
 obtain⟨D1,h1,v1⟩:=h.txt;exact⟨h.ne,⟨D1,(h1.kept hg (by simpa using h.ne)).mono (ama _),v1⟩,⟨_,hD,hv.put s m⟩⟩
def knV(a b:Nat):Value:=.agg #[.map (some a),.map (some b)]
def a9W(a b n:Nat)(r:(ByteArray×Int)×Kn)(w:World)(e:Ending)(w':World):Prop:=e= .returned (.tuple #[.string r.1.1,.int .i64 r.1.2])/\KnAt w' a b (n+1) r.2/\Off [a,b] w w'
theorem a6A{w W W':World}{m:Nat}{F:List Nat}(h:Below w.heap.size w W)(hg:W.grownBy W' (some m))(hm:m∈F):Off F w W':=
 ⟨hg.os.trans h.os,hg.tape.trans h.tape,hg.output.trans h.output,alF h.size hg.size,fun k h1 h2=>(hg.block k (alJ h1 h.size) (fun e=>by cases e;exact h2 hm)).trans (h.block k h1)⟩
theorem adX(a b n:Nat)(k:Kn)(s t:ByteArray)(hs:s.size<=1000000)(hn:n<=1000)(w:World)(h:KnAt w a b n k):
  Calls Tryz.prog 284 #[.agg #[.string s,.string t],knV a b] w (a9W a b n (anC (.put s t) k) w):=by
 have hB:Below w.heap.size w ((w.alloc (.cells #[.string s,.string t] 136)).alloc (.cells #[.map (some a),.map (some b)] 102)):=((apC _ w).alloc (aly _) _).alloc (by simp) _
 have HA:=Lib.hid h.lt.1;have HK:=Lib.hid (h.below hB);have HB:=Lib.hid hB;obtain⟨D,hD,hv⟩:=HK.out.txt;have HV:=Lib.hid hv;have hk:=a5i hs;have HKey:=Lib.hid hk;clear h hB hv hk;unfold knV;go_enter Tryz.func284,Tryz.ntmps284;go_wp2_with (at_mapUpdate;refine wpList_mapUpdate_own _ rfl _ _ _ 99 rfl 9 9 Tryz.keyedStr Tryz.underlying99 anZ a n D rfl hD (by unfold maxLen;omega) _ _ (anP s) rfl rfl HKey.out (.held (.string t)) [] rfl ?_)
 intro w1 hD1 hg1;have hlt:=HK.out.lt
 have c1:w1.cell? ⟨w.heap.size,1,none⟩=some (.string t):=by
  refine(World.cell?_of_block (hg1.block _ (by simp;omega) (fun e=>?_))).trans (by simp)
  have e2:w.heap.size=a:=Option.some.inj e;have:=HA.out;omega
 have HK1:=Lib.hid (HK.out.put HV.out hD1 hg1);have HO1:=Lib.hid (a6A HB.out hg1 (F:=[a,b]) (by simp));clear hD1 hg1 hlt hD;go_wp2;go_ret2;exact⟨rfl,HK1.out,HO1.out⟩
theorem aeJ{w W W':World}{m:Nat}{F:List Nat}(h:Below w.heap.size w W)(hg:W.mapTurned W' m)(hm:m∈F):Off F w W':=a6A h hg.grown hm
theorem a82(a b n:Nat)(k:Kn)(s:ByteArray)(hs:s.size<=1000000)(_hn:n<=1000)(w:World)(h:KnAt w a b n k):
  Calls Tryz.prog 285 #[.agg #[.string s],knV a b] w (a9W a b n (anC (.drop s) k) w):=by
 have hB:Below w.heap.size w ((w.alloc (.cells #[.string s] 138)).alloc (.cells #[.map (some a),.map (some b)] 102)):=((apC _ w).alloc (aly _) _).alloc (by simp) _
 have HK:=Lib.hid (h.below hB);have HB:=Lib.hid hB;have hlook:=HK.out.look s hs;obtain⟨D,hD,hv⟩:=HK.out.txt;have HV:=Lib.hid hv;have hk:=a5i hs;have HKey:=Lib.hid hk;clear h hB hv hk;unfold knV;cases hx:k.txt s with
 |none=>
  rw[hx]at hlook;have HR:Hid (anC (.drop s) k=((emp,5),k)):=Lib.hid (by simp only[anC,hx]);rw[HR.out];unfold aoA emp at hlook;simp only[Option.getD_none,an7]at hlook;clear hx;go_enter Tryz.func285,Tryz.ntmps285;go_wp2;go_ret2;exact⟨rfl,⟨HK.out.ne,(by obtain⟨D,h1,h2⟩:=HK.out.txt;exact⟨D,h1.mono (ama _),h2⟩),(by obtain⟨D,h1,h2⟩:=HK.out.stk;exact⟨D,h1.mono (ama _),h2⟩)⟩,Off.of_below HB.out⟩
 | some t=>
  rw[hx]at hlook;have HR:Hid (anC (.drop s) k=((t,0),⟨upd k.txt s none,k.stk⟩)):=Lib.hid (by simp only[anC,hx]);rw[HR.out];unfold aoA at hlook;simp only[am8,Option.isSome_some]at hlook;clear hx;go_enter Tryz.func285,Tryz.ntmps285;go_wp2_with (at_delete;refine wpList_delete_own _ rfl _ _ 99 9 rfl 9 Tryz.keyedStr Tryz.underlying99 anZ a n D rfl hD _ (anP s) rfl HKey.out ?_)
  intro w1 hD1 hg1
  have HK1:Hid (KnAt w1 a b (n+1) ⟨upd k.txt s none,k.stk⟩):=Lib.hid (by
   obtain⟨D2,h2,v2⟩:=HK.out.stk;exact⟨HK.out.ne,⟨_,hD1.mono (ama _),HV.out.del s⟩,⟨D2,(h2.kept hg1.grown (by simpa using HK.out.ne.symm)).mono (ama _),v2⟩⟩)
  have HO1:=Lib.hid (aeJ HB.out hg1 (F:=[a,b]) (by simp));clear hD1 hg1 hD hlook;go_wp2;go_ret2;exact⟨rfl,HK1.out,HO1.out⟩
theorem adY(a b n:Nat)(k:Kn)(s:ByteArray)(m:Int)(hs:s.size<=1000000)(hn:n<=1000)(hk0: -100000000<=k.stk s/\k.stk s<=100000000)(hm: -9999<=m/\m<=9999)(w:World)(hV:Vars w)(h:KnAt w a b n k)(ha:¬a1f a)(hb:¬a1f b):
  Calls Tryz.prog 287 #[.agg #[.string s,.int .i64 m],knV a b] w (a9W a b n (anC (.add s m) k) w):=by
 have hB:Below w.heap.size w ((w.alloc (.cells #[.string s,.int .i64 m] 143)).alloc (.cells #[.map (some a),.map (some b)] 102)):=((apC _ w).alloc (aly _) _).alloc (by simp) _
 have HL0:=Lib.hid h.lt;have HK:=Lib.hid (h.below hB);have HB:=Lib.hid hB;have HVR:=Lib.hid hV;have hlook:=HK.out.lookI s hs;obtain⟨D,hD,hv⟩:=HK.out.stk;have HV:=Lib.hid hv;have hk:=a5i hs;have HKey:=Lib.hid hk;have HS:=Lib.hid hs;have HAV:=Lib.hid (And.intro ha hb);clear h hB hv hk hV ha hb;unfold knV;have HR:Hid (anC (.add s m) k=((itoaB (k.stk s+m),0),⟨k.txt,upd k.stk s (k.stk s+m)⟩)):=Lib.hid rfl;rw[HR.out];obtain⟨z,hz⟩:∃z,z=k.stk s:=⟨_,rfl⟩
 have HZ:=Lib.hid hz;rw[<-hz]at hlook hk0⊢;clear hz;obtain⟨hk1,hk2⟩:=hk0;obtain⟨hm1,hm2⟩:=hm;have hwr:IntKind.i64.wrap (z+m)=z+m:=IntWalk.i64_in _ (by omega);go_enter Tryz.func287,Tryz.ntmps287;go_wp2_with (at_mapUpdate;refine wpList_mapUpdate_own _ rfl _ _ _ 100 rfl 9 3 Tryz.keyedStr Tryz.underlying100 anZ b n D rfl hD (by unfold maxLen;omega) _ _ (anP s) rfl rfl HKey.out (.held (.int .i64 (z+m))) [] rfl ?_)
 intro w1 hD1 hg1;have hl0:=HL0.out
 have hblk:∀j,j=w.heap.size\/j=w.heap.size+1->w1.heap[j]? =((w.alloc (.cells #[.string s,.int .i64 m] 143)).alloc (.cells #[.map (some a),.map (some b)] 102)).heap[j]? :=fun j hj=>hg1.block _ (by simp;omega) (fun e=>by
  have e2:j=b:=Option.some.inj e;omega)
 have c1:w1.cell? ⟨w.heap.size,0,none⟩=some (.string s):=(World.cell?_of_block (hblk _ (.inl rfl))).trans (by simp)
 have c2:w1.cell? ⟨w.heap.size+1,1,none⟩=some (.map (some b)):=(World.cell?_of_block (hblk _ (.inr rfl))).trans (by simp)
 have HK1:=Lib.hid (HK.out.add HV.out hD1 hg1);have HO1:=Lib.hid (a6A HB.out hg1 (F:=[a,b]) (by simp));have hlook1:=HK1.out.lookI s HS.out;have hst:upd k.stk s (z+m) s=z+m:=a5C _ _ _;rw[show (Kn.mk k.txt (upd k.stk s (z+m))).stk s=z+m from hst]at hlook1
 have HV1:Hid (Vars w1):=Lib.hid (HVR.out.keep fun j hj=>HO1.out.block j (HVR.out.lt hj) (fun hm=>by
  rcases (by simpa using hm:j=a\/j=b)with rfl|rfl
  ·exact HAV.out.1 hj
  exact HAV.out.2 hj))
 clear hD1 hg1 hD hlook hblk hst hl0;go_wp2_with fail
 refine(itoa_any (z+m) (by omega) (by omega) w1 HV1.out).mono ?_
 rintro e w2 ⟨rfl,hb2⟩;have HK2:=Lib.hid (HK1.out.below hb2);have HO2:=Lib.hid (HO1.out.trans (Off.of_below hb2));clear hb2;go_wp2;go_ret2;exact⟨rfl,HK2.out,HO2.out⟩
end Go.Proofs.YtdfkaijeppdhaaaGreatDoor
namespace Go.Proofs.YtdfkaijeppdhaaaGreatDoor
open Go.RowKit Go.Shelf
def Cmd.deedO:Option Cmd->Bool
 |some c=>c.deed
 |none=>false
def Cmd.askO:Option Cmd->Bool
 |some c=> !c.deed
 |none=>false
def ifV(b:Bool)(v:Value):Value:=if b then v else .nilIface
theorem a8B(w:World):(Instr.typeAssert .nilIface 20 93 true).run Tryz.prog w= .ok (.tuple #[.nilIface,.bool false]) w:=by kernel_rfl
theorem a8C(p:Value)(w:World):(Instr.typeAssert (.iface 136 p) 20 93 true).run Tryz.prog w= .ok (.tuple #[.iface 136 p,.bool true]) w:=by kernel_rfl
theorem a7E(p:Value)(w:World):(Instr.typeAssert (.iface 138 p) 20 93 true).run Tryz.prog w= .ok (.tuple #[.iface 138 p,.bool true]) w:=by kernel_rfl
theorem a8D(p:Value)(w:World):(Instr.typeAssert (.iface 143 p) 20 93 true).run Tryz.prog w= .ok (.tuple #[.iface 143 p,.bool true]) w:=by kernel_rfl
theorem a6B(p:Value)(w:World):(Instr.typeAssert (.iface 139 p) 20 93 true).run Tryz.prog w= .ok (.tuple #[.nilIface,.bool false]) w:=run_typeAssert_lacksB Tryz.underlying93 (by kernel_rfl) (by kernel_rfl) p _ w
theorem a6C(p:Value)(w:World):(Instr.typeAssert (.iface 146 p) 20 93 true).run Tryz.prog w= .ok (.tuple #[.nilIface,.bool false]) w:=run_typeAssert_lacksB Tryz.underlying93 (by kernel_rfl) (by kernel_rfl) p _ w
theorem a6D(p:Value)(w:World):(Instr.typeAssert (.iface 185 p) 20 93 true).run Tryz.prog w= .ok (.tuple #[.nilIface,.bool false]) w:=run_typeAssert_lacksB Tryz.underlying93 (by kernel_rfl) (by kernel_rfl) p _ w
theorem aku(w:World):(Instr.typeAssert .nilIface 20 110 true).run Tryz.prog w= .ok (.tuple #[.nilIface,.bool false]) w:=by kernel_rfl
theorem akv(p:Value)(w:World):(Instr.typeAssert (.iface 136 p) 20 110 true).run Tryz.prog w= .ok (.tuple #[.nilIface,.bool false]) w:=run_typeAssert_lacksB Tryz.underlying110 (by kernel_rfl) (by kernel_rfl) p _ w
theorem aiU(p:Value)(w:World):(Instr.typeAssert (.iface 138 p) 20 110 true).run Tryz.prog w= .ok (.tuple #[.nilIface,.bool false]) w:=run_typeAssert_lacksB Tryz.underlying110 (by kernel_rfl) (by kernel_rfl) p _ w
theorem akw(p:Value)(w:World):(Instr.typeAssert (.iface 143 p) 20 110 true).run Tryz.prog w= .ok (.tuple #[.nilIface,.bool false]) w:=run_typeAssert_lacksB Tryz.underlying110 (by kernel_rfl) (by kernel_rfl) p _ w
theorem agG(p:Value)(w:World):(Instr.typeAssert (.iface 139 p) 20 110 true).run Tryz.prog w= .ok (.tuple #[.iface 139 p,.bool true]) w:=by kernel_rfl
theorem agH(p:Value)(w:World):(Instr.typeAssert (.iface 146 p) 20 110 true).run Tryz.prog w= .ok (.tuple #[.iface 146 p,.bool true]) w:=by kernel_rfl
theorem agI(p:Value)(w:World):(Instr.typeAssert (.iface 185 p) 20 110 true).run Tryz.prog w= .ok (.tuple #[.iface 185 p,.bool true]) w:=by kernel_rfl
theorem a2p{w0:World}{v:Value}{o:Option Cmd}(h:CmdO w0 v o)(w:World):(Instr.typeAssert v 20 93 true).run Tryz.prog w= .ok (.tuple #[ifV (Cmd.deedO o) v,.bool (Cmd.deedO o)]) w:=by
 cases o with
 |none=>obtain rfl:v= .nilIface:=h;exact a8B w
 |some c=>
  cases c with
  |put n t=>obtain rfl:v=_:=h;exact a8C _ w
  |drop n=>obtain rfl:v=_:=h;exact a7E _ w
  |add n m=>obtain rfl:v=_:=h;exact a8D _ w
  |stock n=>obtain rfl:v=_:=h;exact a6B _ w
  |share n l=>obtain⟨s,rfl,_⟩:=h;exact a6C _ w
  |asked k l ns=>obtain⟨a,b,rfl,_⟩:=h;exact a6D _ w
theorem a3p{w0:World}{v:Value}{o:Option Cmd}(h:CmdO w0 v o)(w:World):(Instr.typeAssert v 20 110 true).run Tryz.prog w= .ok (.tuple #[ifV (Cmd.askO o) v,.bool (Cmd.askO o)]) w:=by
 cases o with
 |none=>obtain rfl:v= .nilIface:=h;exact aku w
 |some c=>
  cases c with
  |put n t=>obtain rfl:v=_:=h;exact akv _ w
  |drop n=>obtain rfl:v=_:=h;exact aiU _ w
  |add n m=>obtain rfl:v=_:=h;exact akw _ w
  |stock n=>obtain rfl:v=_:=h;exact agG _ w
  |share n l=>obtain⟨s,rfl,_⟩:=h;exact agH _ w
  |asked k l ns=>obtain⟨a,b,rfl,_⟩:=h;exact agI _ w
theorem a8E(p:Value)(w:World):(method 462 136 p "skimmer/post.say").run Tryz.prog w= .ok (284,p) w:=by kernel_rfl
theorem a5b(p:Value)(w:World):(method 462 138 p "skimmer/post.say").run Tryz.prog w= .ok (285,p) w:=by kernel_rfl
theorem a8F(p:Value)(w:World):(method 462 143 p "skimmer/post.say").run Tryz.prog w= .ok (287,p) w:=by kernel_rfl
theorem abK(p:Value)(w:World):(method 462 139 p "skimmer/post.ask").run Tryz.prog w= .ok (286,p) w:=by kernel_rfl
theorem abL(p:Value)(w:World):(method 462 146 p "skimmer/post.ask").run Tryz.prog w= .ok (288,p) w:=by kernel_rfl
theorem abM(p:Value)(w:World):(method 462 185 p "skimmer/post.ask").run Tryz.prog w= .ok (338,p) w:=by kernel_rfl
theorem agJ(p:Value)(w:World):(nilAhead 462 136 p "skimmer/post.say").run Tryz.prog w= .ok (some false) w:=by kernel_rfl
theorem a8G(p:Value)(w:World):(nilAhead 462 138 p "skimmer/post.say").run Tryz.prog w= .ok (some false) w:=by kernel_rfl
theorem agK(p:Value)(w:World):(nilAhead 462 143 p "skimmer/post.say").run Tryz.prog w= .ok (some false) w:=by kernel_rfl
theorem adb(p:Value)(w:World):(nilAhead 462 139 p "skimmer/post.ask").run Tryz.prog w= .ok (some false) w:=by kernel_rfl
theorem adc(p:Value)(w:World):(nilAhead 462 146 p "skimmer/post.ask").run Tryz.prog w= .ok (some false) w:=by kernel_rfl
theorem ade(p:Value)(w:World):(nilAhead 462 185 p "skimmer/post.ask").run Tryz.prog w= .ok (some false) w:=by kernel_rfl
theorem Cmd.names_small{s:ByteArray}{c:Cmd}(h:a05 s=some c):(∀n t,c= .put n t->n.size<=8)/\(∀n,c= .drop n->n.size<=8)/\(∀n m,c= .add n m->n.size<=8/\ -9999<=m/\m<=9999)/\(∀n,c= .stock n->n.size<=8)/\(∀m l,c= .share m l->∀x∈l,x.size<=8)/\(∀k l ns,c= .asked k l ns->∀x∈l,x.size<=8):=by
 have hn:∀x,a01 x=true->x.size<=8:=fun x hx=>((a5a x).1 hx).2.1
 unfold a05 at h;split at h
 ·rename_i w r0 rs _
  unfold a0I at h;split at h
  ·split at h
   ·rename_i hc
    rw[Bool.and_eq_true,Bool.and_eq_true]at hc;cases h
    exact⟨fun n t e=>by cases e;exact hn _ hc.1.1,by simp,by simp,by simp,by simp,by simp⟩
   cases h
  split at h
  ·split at h
   ·rename_i hc
    rw[Bool.and_eq_true]at hc;cases h
    exact⟨by simp,fun n e=>by cases e;exact hn _ hc.2,by simp,by simp,by simp,by simp⟩
   cases h
  split at h
  ·split at h
   ·rename_i hc
    rw[Bool.and_eq_true]at hc;cases h
    exact⟨by simp,by simp,by simp,fun n e=>by cases e;exact hn _ hc.2,by simp,by simp⟩
   cases h
  split at h
  ·split at h
   ·rename_i n2 hn2
    split at h
    ·rename_i hc
     cases h
     obtain⟨r,_,hr⟩:=a7X hn2;exact⟨by simp,by simp,fun n m e=>by cases e;exact⟨hn _ hc,(a3e hr).2⟩,by simp,by simp,by simp⟩
    cases h
   cases h
  split at h
  ·split at h
   ·split at h
    ·rename_i hc
     rw[Bool.and_eq_true]at hc;cases h
     exact⟨by simp,by simp,by simp,by simp,fun m l e x hx=>by cases e;exact hn _ (amh.1 hc.1 x hx),by simp⟩
    cases h
   cases h
  unfold a1J at h;split at h
  ·cases h
  split at h
  ·cases h
  split at h
  ·rename_i hall _
   cases h
   exact⟨by simp,by simp,by simp,by simp,by simp,fun k l ns e x hx=>by cases e;exact hn _ (amh.1 hall x hx)⟩
  cases h
 cases h
end Go.Proofs.YtdfkaijeppdhaaaGreatDoor
namespace Go.Proofs.YtdfkaijeppdhaaaGreatDoor
open Go.RowKit Go.Shelf
theorem a6E:∀(l:List Ent) (k:Kn) (B:Int),(∀s, -B<=k.stk s/\k.stk s<=B)->∀s, -(B+9999 * l.length)<=(a1w k l).stk s/\(a1w k l).stk s<=B+9999 * l.length
 |[],k,B,h,s=>by have:=h s;simpa [a1w]using this
 | e :: l,k,B,h,s=>by
  have h2 :∀s, -(B+9999)<=(a0L k (a06 e)).stk s/\(a0L k (a06 e)).stk s<=B+9999:=fun s=>by
   have h3:=h s;unfold a0L;cases hp:a05 (a06 e)with
   |none=>simp only;omega
   | some c=>
    simp only;cases c with
    |put n t=>simp only[Cmd.deed,if_true,anC];omega
    |drop n=>
     simp only[Cmd.deed,if_true,anC];cases k.txt n<;>simp only<;>omega
    | add n m=>
     simp only[Cmd.deed,if_true,anC]
     have hm: -9999<=m/\m<=9999:=by
      unfold a05 at hp;split at hp
      ·rename_i w r0 rs _
       unfold a0I at hp;split at hp
       ·split at hp<;>cases hp
       split at hp
       ·split at hp<;>cases hp
       split at hp
       ·split at hp<;>cases hp
       split at hp
       ·split at hp
        ·rename_i n2 hn2
         split at hp
         ·cases hp
          obtain⟨r,_,hr⟩:=a7X hn2;exact(a3e hr).2
         cases hp
        cases hp
       split at hp
       ·split at hp
        ·split at hp<;>cases hp
        cases hp
       have:=a7W hp;cases this
      cases hp
     unfold upd;split
     ·rename_i e2;subst e2;omega
     omega
    |stock n=>simp only[Cmd.deed,Bool.false_eq_true,if_false];omega
    |share n l=>simp only[Cmd.deed,Bool.false_eq_true,if_false];omega
    |asked k l ns=>simp only[Cmd.deed,Bool.false_eq_true,if_false];omega
  have:=a6E l (a0L k (a06 e)) (B+9999) h2 s;show-(B+9999 * ((l.length+1:Nat):Int))<=(a1w (a0L k (a06 e)) l).stk s/\_<=_
  show-(B+9999 * ((l.length+1:Nat):Int))<=(a1w (a0L k (a06 e)) l).stk s/\(a1w (a0L k (a06 e)) l).stk s<=B+9999 * ((l.length+1:Nat):Int)
  omega
theorem a3y(l:List Ent)(h:l.length<=1000)(s:ByteArray): -100000000<=(a07 l).stk s/\(a07 l).stk s<=100000000:=by
 have:=a6E l kn0 0 (fun s=>by simp[kn0]) s;unfold a07;omega
theorem agL{l:List Ent}{i:Nat}(h:i<l.length):a07 (l.take (i+1))=a0L (a07 (l.take i)) (a06 (l.getD i noE)):=by
 rw[alC h,aev,abs,alz h];rfl
theorem getD_mem'{l:List Ent}{i:Nat}(h:i<l.length):l.getD i noE∈l:=by
 rw[abs,alz h];exact alX h
def aiV(l:List Ent)(w:World)(e:Ending)(w':World):Prop:=∃a b,e= .returned (knV a b)/\KnAt w' a b l.length (a07 l)/\w.heap.size<=a/\w.heap.size<=b/\Below w.heap.size w w'
theorem a3Y{n:Nat}{F:List Nat}{w0 w w':World}(hb:Below n w0 w)(hs:n<=w.heap.size)(h:Off F w w')(hF:∀k∈F,n<=k):Below n w0 w':=hb.trans (h.below hs hF)
theorem a36(v:Value)(l:List Ent)(w:World)(hv:EntsAt w v l)(hl:l.length<=1000)(hok:∀e∈l,(a06 e).size<=60)(hV:Vars w):
  Calls Tryz.prog 56 #[v] w (aiV l w):=by
 have HVR:=Lib.hid hV;have HOK:=Lib.hid hok;clear hV hok;by_cases h0:0<l.length
 ·obtain⟨bk,off,cap,rfl,hc⟩:=hv.cells h0;have HC:=Lib.hid hc;clear hc hv;obtain⟨nl,hnl⟩:∃nl,nl=l.length:=⟨_,rfl⟩
  have HN:=Lib.hid hnl;rw[<-hnl]at h0 hl⊢;clear hnl;have hmm:=@run_makeMap Tryz.prog;go_enter Tryz.func56,Tryz.ntmps56;go_wp2;obtain⟨w2,hw2⟩:∃w2,w2=((((w.alloc (.cells #[.map none,.map none] 102)).alloc (.map #[] 0)).alloc (.map #[] 0)).alloc (.cells #[.map (some (w.heap.size+1)),.map (some (w.heap.size+1+1))] 102)):=⟨_,rfl⟩
  rw[<-hw2];have hz2:w2.heap.size=w.heap.size+4:=by rw[hw2];simp
  have HB2:Hid (Below w.heap.size w w2):=Lib.hid (by rw[hw2];exact((((apC _ w).alloc (aly _) _).alloc (by simp) _).alloc (by simp;omega) _).alloc (by simp;omega) _)
  have HK2:Hid (KnAt w2 (w.heap.size+1) (w.heap.size+2) 0 kn0):=Lib.hid (by
   have h:=(KnAt.new (w.alloc (.cells #[.map none,.map none] 102))).below ((apC _ _).alloc (aly _) (.cells #[.map (some (w.heap.size+1)),.map (some (w.heap.size+1+1))] 102))
   rw[<-hw2]at h;simpa using h)
  have HR2:Hid (w2.heap[w.heap.size]? =some (.cells #[.map none,.map none] 102 (0,0))):=Lib.hid (by
   rw[hw2];refine(apD _ _ _ (by simp;omega)).trans ((apD _ _ _ (by simp;omega)).trans ((apD _ _ _ (by simp)).trans (World.alloc_heap_new w _))))
  have HX2:Hid (w2.heap[w.heap.size+3]? =some (.cells #[.map (some (w.heap.size+1)),.map (some (w.heap.size+2))] 102 (0,0))):=Lib.hid (by
   have h:=World.alloc_heap_new (((w.alloc (.cells #[.map none,.map none] 102)).alloc (.map #[] 0)).alloc (.map #[] 0)) (.cells #[.map (some (w.heap.size+1)),.map (some (w.heap.size+1+1))] 102);rw[<-hw2]at h;simpa using h)
  have HV2:=Lib.hid (HVR.out.below HB2.out);have HVL:=Lib.hid (fun k (hk:a1f k)=>HVR.out.lt hk);clear hw2 hmm;go_loopw [13] (fun i wr=>∃k:Nat,k<=nl/\i= .int .i64 k/\Hid (KnAt wr (w.heap.size+1) (w.heap.size+2) k (a07 (l.take k)))/\Hid (Off [w.heap.size+1,w.heap.size+2] w2 wr)) (fun i _=>nl-(intOf i).toNat)
  case atStart=>exact⟨0,alE _,rfl,HK2,Lib.hid (Off.refl _ _)⟩
  case round=>
   obtain⟨k,hk,rfl,hkn,hoff⟩:=hrel;have hsz:w2.heap.size<=wr.heap.size:=hoff.out.size;have HBw:Hid (Below w.heap.size w wr):=Lib.hid (a3Y HB2.out (by omega) hoff.out (by simp));have HXr:Hid (wr.heap[w.heap.size+3]? =some (.cells #[.map (some (w.heap.size+1)),.map (some (w.heap.size+2))] 102 (0,0))):=Lib.hid ((hoff.out.block _ (by omega) (by simp)).trans HX2.out);have HRr:Hid (wr.heap[w.heap.size]? =some (.cells #[.map none,.map none] 102 (0,0))):=Lib.hid ((hoff.out.block _ (by omega) (by simp)).trans HR2.out);by_cases hlt:k<nl
   ·have hcs:=HC.out k (by rw[<-HN.out];exact hlt);have HT:=Lib.hid (agL (l:=l) (i:=k) (by rw[<-HN.out];exact hlt));have HLN:=Lib.hid (HOK.out _ (getD_mem' (l:=l) (i:=k) (by rw[<-HN.out];exact hlt)));have HSB:=Lib.hid (a3y (l.take k) (by rw[alL];omega));rw[show ((0,0,0,⟨#[]⟩):Ent)=noE from rfl]at hcs;generalize l.getD k noE=en at *;obtain⟨q0,q1,q2,q3⟩:=hcs;have d0:=keep_cell HBw.out q0;have d1:=keep_cell HBw.out q1;have d2:=keep_cell HBw.out q2;have d3:=keep_cell HBw.out q3;clear q0 q1 q2 q3;go_wp2_with fail
    obtain⟨w3,hw3⟩:∃w3,w3=wr.alloc (.cells #[.int .i64 (a04 en),.int .i64 (anv en),.int .i64 (ano en),.string (a06 en)] 43):=⟨_,rfl⟩
    rw[<-hw3];have HB3:Hid (Below wr.heap.size wr w3):=Lib.hid (by rw[hw3];exact(apC _ _).alloc (aly _) _);have HV3:Hid (Vars w3):=Lib.hid ((HV2.out.keep (fun j hj=>hoff.out.block j (by have:=HVL.out j hj;omega) (by have:=HVL.out j hj;simp;omega))).below HB3.out);clear hw3 d0 d1 d2 d3;refine(a1p _ (by have:=HLN.out;omega) _ HV3.out).mono ?_
    rintro e w4 ⟨⟨pv,rfl,hpv⟩,hb4⟩;have HB4:=Lib.hid (below_trans HB3.out hb4);have c0:w4.cell? ⟨w.heap.size+3,0,none⟩=some (.map (some (w.heap.size+1))):=keep_cell HB4.out (heap_cell HXr.out rfl);have c1:w4.cell? ⟨w.heap.size+3,1,none⟩=some (.map (some (w.heap.size+2))):=keep_cell HB4.out (heap_cell HXr.out rfl);have HK4:=Lib.hid (hkn.out.below HB4.out);have HV4:=Lib.hid (HV3.out.below hb4);clear hb4;cases hp:a05 (a06 en)with
    |none=>
     rw[hp]at hpv;obtain rfl:pv= .nilIface:=hpv
     have hta:=a8B w4;have HNX:Hid (a07 (l.take (k+1))=a07 (l.take k)):=Lib.hid (by rw[HT.out];unfold a0L;rw[hp]);have HKX:Hid (KnAt w4 (w.heap.size+1) (w.heap.size+2) (k+1) (a07 (l.take (k+1)))):=Lib.hid (by rw[HNX.out];exact HK4.out.mono);have HOX:=Lib.hid (hoff.out.trans (Off.of_below HB4.out));clear hp;go_wp2;go_roundw
     case rel=>exact⟨k+1,by omega,by go_num,HKX,HOX⟩
     case measure=>simp[intOf];omega
    | some c=>
     cases c with
     |put n t=>
      rw[hp]at hpv;obtain rfl:pv=_:=hpv;have hta:=a8C (.agg #[.string n,.string t]) w4;have hme:=a8E (.agg #[.string n,.string t]) w4;have HDC:=Lib.hid (adX (w.heap.size+1) (w.heap.size+2) k (a07 (l.take k)) n t (by have:=(Cmd.names_small hp).1 n t rfl;omega) (by omega) w4 HK4.out);have HNX:Hid (a07 (l.take (k+1))=(anC (.put n t) (a07 (l.take k))).2):=Lib.hid (by rw[HT.out];unfold a0L;rw[hp];rfl);clear hp;go_wp2_with fail
      refine HDC.out.mono ?_;rintro e w5 ⟨rfl,hk5,ho5⟩;have HKX:Hid (KnAt w5 (w.heap.size+1) (w.heap.size+2) (k+1) (a07 (l.take (k+1)))):=Lib.hid (by rw[HNX.out];exact hk5);have HOX:=Lib.hid ((hoff.out.trans (Off.of_below HB4.out)).trans ho5);clear hk5 ho5 hta hme;go_wp2;go_roundw
      case rel=>exact⟨k+1,by omega,by go_num,HKX,HOX⟩
      case measure=>simp[intOf];omega
     |drop n=>
      rw[hp]at hpv;obtain rfl:pv=_:=hpv;have hta:=a7E (.agg #[.string n]) w4;have hme:=a5b (.agg #[.string n]) w4;have HDC:=Lib.hid (a82 (w.heap.size+1) (w.heap.size+2) k (a07 (l.take k)) n (by have:=(Cmd.names_small hp).2.1 n rfl;omega) (by omega) w4 HK4.out);have HNX:Hid (a07 (l.take (k+1))=(anC (.drop n) (a07 (l.take k))).2):=Lib.hid (by rw[HT.out];unfold a0L;rw[hp];rfl);clear hp;go_wp2_with fail
      refine HDC.out.mono ?_;rintro e w5 ⟨rfl,hk5,ho5⟩;have HKX:Hid (KnAt w5 (w.heap.size+1) (w.heap.size+2) (k+1) (a07 (l.take (k+1)))):=Lib.hid (by rw[HNX.out];exact hk5);have HOX:=Lib.hid ((hoff.out.trans (Off.of_below HB4.out)).trans ho5);clear hk5 ho5 hta hme;go_wp2;go_roundw
      case rel=>exact⟨k+1,by omega,by go_num,HKX,HOX⟩
      case measure=>simp[intOf];omega
     |add n m=>
      rw[hp]at hpv;obtain rfl:pv=_:=hpv;have hta:=a8D (.agg #[.string n,.int .i64 m]) w4;have hme:=a8F (.agg #[.string n,.int .i64 m]) w4;have HDC:=Lib.hid (adY (w.heap.size+1) (w.heap.size+2) k (a07 (l.take k)) n m (by have:=((Cmd.names_small hp).2.2.1 n m rfl).1;omega) (by omega) (HSB.out n) ((Cmd.names_small hp).2.2.1 n m rfl).2 w4 HV4.out HK4.out (fun h=>by have:=HVL.out _ h;omega) (fun h=>by have:=HVL.out _ h;omega));have HNX:Hid (a07 (l.take (k+1))=(anC (.add n m) (a07 (l.take k))).2):=Lib.hid (by rw[HT.out];unfold a0L;rw[hp];rfl);clear hp;go_wp2_with fail
      refine HDC.out.mono ?_;rintro e w5 ⟨rfl,hk5,ho5⟩;have HKX:Hid (KnAt w5 (w.heap.size+1) (w.heap.size+2) (k+1) (a07 (l.take (k+1)))):=Lib.hid (by rw[HNX.out];exact hk5);have HOX:=Lib.hid ((hoff.out.trans (Off.of_below HB4.out)).trans ho5);clear hk5 ho5 hta hme;go_wp2;go_roundw
      case rel=>exact⟨k+1,by omega,by go_num,HKX,HOX⟩
      case measure=>simp[intOf];omega
     |stock n=>
      rw[hp]at hpv;obtain rfl:pv=_:=hpv;have hta:=a6B (.agg #[.string n]) w4;have HNX:Hid (a07 (l.take (k+1))=a07 (l.take k)):=Lib.hid (by rw[HT.out];unfold a0L;rw[hp];rfl);have HKX:Hid (KnAt w4 (w.heap.size+1) (w.heap.size+2) (k+1) (a07 (l.take (k+1)))):=Lib.hid (by rw[HNX.out];exact HK4.out.mono);have HOX:=Lib.hid (hoff.out.trans (Off.of_below HB4.out));clear hp;go_wp2;go_roundw
      case rel=>exact⟨k+1,by omega,by go_num,HKX,HOX⟩
      case measure=>simp[intOf];omega
     |share n ll=>
      rw[hp]at hpv;obtain⟨sv,rfl,_⟩:=hpv;have hta:=a6C (.agg #[.int .i64 n,sv]) w4;have HNX:Hid (a07 (l.take (k+1))=a07 (l.take k)):=Lib.hid (by rw[HT.out];unfold a0L;rw[hp];rfl);have HKX:Hid (KnAt w4 (w.heap.size+1) (w.heap.size+2) (k+1) (a07 (l.take (k+1)))):=Lib.hid (by rw[HNX.out];exact HK4.out.mono);have HOX:=Lib.hid (hoff.out.trans (Off.of_below HB4.out));clear hp;go_wp2;go_roundw
      case rel=>exact⟨k+1,by omega,by go_num,HKX,HOX⟩
      case measure=>simp[intOf];omega
     |asked kk ll ns=>
      rw[hp]at hpv;obtain⟨av,bv,rfl,_⟩:=hpv;have hta:=a6D (.agg #[av,bv,.func (.func (a4f kk)) #[] #[]]) w4;have HNX:Hid (a07 (l.take (k+1))=a07 (l.take k)):=Lib.hid (by rw[HT.out];unfold a0L;rw[hp];rfl);have HKX:Hid (KnAt w4 (w.heap.size+1) (w.heap.size+2) (k+1) (a07 (l.take (k+1)))):=Lib.hid (by rw[HNX.out];exact HK4.out.mono);have HOX:=Lib.hid (hoff.out.trans (Off.of_below HB4.out));clear hp;go_wp2;go_roundw
      case rel=>exact⟨k+1,by omega,by go_num,HKX,HOX⟩
      case measure=>simp[intOf];omega
   have e:k=nl:=by omega
   subst e
   have HKE:Hid (KnAt wr (w.heap.size+1) (w.heap.size+2) l.length (a07 l)):=Lib.hid (by
    have h:=hkn.out;rw[HN.out,alV]at h;exact h)
   have c0:=heap_cell (j:=0) HXr.out rfl;have c1:=heap_cell (j:=1) HXr.out rfl;have r0:=heap_cell (j:=0) HRr.out rfl;have f0:wr.frozen? ⟨w.heap.size,0,none⟩=false:=by have:=HRr.out;simp[World.frozen?,this]
   have f1:wr.frozen? ⟨w.heap.size,1,none⟩=false:=by have:=HRr.out;simp[World.frozen?,this]
   have r1:=heap_cell (j:=1) HRr.out rfl;go_wp2;refine bodyPost_ret (v:=knV (w.heap.size+1) (w.heap.size+2)) (by simp[results,Tryz.results56,go_sem,knV,r0,r1]) rfl ⟨_,_,rfl,(HKE.out.keep ?_ ?_),by omega,by omega,?_⟩
   ·exact(apE _ _ _ _ (by show w.heap.size+1≠w.heap.size;omega)).trans (apE _ _ _ _ (by show w.heap.size+1≠w.heap.size;omega))
   ·exact(apE _ _ _ _ (by show w.heap.size+2≠w.heap.size;omega)).trans (apE _ _ _ _ (by show w.heap.size+2≠w.heap.size;omega))
   exact(HBw.out.setCell (p:=⟨w.heap.size,0,none⟩) (aly _) _).setCell (p:=⟨w.heap.size,1,none⟩) (aly _) _
 have hz:l=[]:=alK.1 (by omega);subst hz;obtain⟨a0,cap,rfl,_⟩:=hv;clear h0;have hmm:=@run_makeMap Tryz.prog;go_enter Tryz.func56,Tryz.ntmps56;go_wp2;obtain⟨w2,hw2⟩:∃w2,w2=((((w.alloc (.cells #[.map none,.map none] 102)).alloc (.map #[] 0)).alloc (.map #[] 0)).alloc (.cells #[.map (some (w.heap.size+1)),.map (some (w.heap.size+1+1))] 102)):=⟨_,rfl⟩
 rw[<-hw2];have hz2:w2.heap.size=w.heap.size+4:=by rw[hw2];simp
 have HB2:Hid (Below w.heap.size w w2):=Lib.hid (by rw[hw2];exact((((apC _ w).alloc (aly _) _).alloc (by simp) _).alloc (by simp;omega) _).alloc (by simp;omega) _)
 have HK2:Hid (KnAt w2 (w.heap.size+1) (w.heap.size+2) 0 kn0):=Lib.hid (by
  have h:=(KnAt.new (w.alloc (.cells #[.map none,.map none] 102))).below ((apC _ _).alloc (aly _) (.cells #[.map (some (w.heap.size+1)),.map (some (w.heap.size+1+1))] 102))
  rw[<-hw2]at h;simpa using h)
 have HRr:Hid (w2.heap[w.heap.size]? =some (.cells #[.map none,.map none] 102 (0,0))):=Lib.hid (by
  rw[hw2];refine(apD _ _ _ (by simp;omega)).trans ((apD _ _ _ (by simp;omega)).trans ((apD _ _ _ (by simp)).trans (World.alloc_heap_new w _))))
 have HXr:Hid (w2.heap[w.heap.size+3]? =some (.cells #[.map (some (w.heap.size+1)),.map (some (w.heap.size+2))] 102 (0,0))):=Lib.hid (by
  have h:=World.alloc_heap_new (((w.alloc (.cells #[.map none,.map none] 102)).alloc (.map #[] 0)).alloc (.map #[] 0)) (.cells #[.map (some (w.heap.size+1)),.map (some (w.heap.size+1+1))] 102);rw[<-hw2]at h;simpa using h)
 clear hw2 hmm;go_loopw [13] (fun i wr=>i= .int .i64 0/\w2=wr) (fun _ _=>0)
 case atStart=>exact⟨rfl,rfl⟩
 case round=>
  obtain⟨rfl,rfl⟩:=hrel;have c0:=heap_cell (j:=0) HXr.out rfl;have c1:=heap_cell (j:=1) HXr.out rfl;have r0:=heap_cell (j:=0) HRr.out rfl;have f0:w2.frozen? ⟨w.heap.size,0,none⟩=false:=by have:=HRr.out;simp[World.frozen?,this]
  have f1:w2.frozen? ⟨w.heap.size,1,none⟩=false:=by have:=HRr.out;simp[World.frozen?,this]
  have r1:=heap_cell (j:=1) HRr.out rfl;go_wp2;refine bodyPost_ret (v:=knV (w.heap.size+1) (w.heap.size+2)) (by simp[results,Tryz.results56,go_sem,knV,r0,r1]) rfl ⟨_,_,rfl,(HK2.out.keep ?_ ?_),by omega,by omega,?_⟩
  ·exact(apE _ _ _ _ (by show w.heap.size+1≠w.heap.size;omega)).trans (apE _ _ _ _ (by show w.heap.size+1≠w.heap.size;omega))
  ·exact(apE _ _ _ _ (by show w.heap.size+2≠w.heap.size;omega)).trans (apE _ _ _ _ (by show w.heap.size+2≠w.heap.size;omega))
  exact(HB2.out.setCell (p:=⟨w.heap.size,0,none⟩) (aly _) _).setCell (p:=⟨w.heap.size,1,none⟩) (aly _) _
end Go.Proofs.YtdfkaijeppdhaaaGreatDoor
