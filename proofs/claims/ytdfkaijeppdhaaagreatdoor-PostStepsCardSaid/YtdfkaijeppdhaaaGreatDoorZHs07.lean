/- Part of the proof. -/
import Derived.Test.YtdfkaijeppdhaaaGreatDoorZHs06
import Derived.Deep.RegionHeld3
import Derived.Stop.Asserts

set_option maxRecDepth 100000
set_option maxHeartbeats 8000000

namespace Go.Proofs.YtdfkaijeppdhaaaGreatDoor
open Lib (hid)
open Proofs.Tryz Go.RowKit Go.Shelf
theorem Tryz.keyedStr:Maps.Keyed prog 9:=Maps.string_keyed underlying9
def a2s(s:ByteArray):Lit:=.string s.data.toList
theorem a6x{s:ByteArray}(hs:s.size<=1000000):keyOf prog 9 (.string s)=some (a2s s):=WideMaps.keyOf_string_mk underlying9 (by unfold maxLen;omega)
theorem a9u{s t:ByteArray}(h:a2s s=a2s t):s=t:=by
 unfold a2s at h;injection h with h
 exact ba_ext h
theorem abz(s:ByteArray):WideAt.IsKeyLit (a2s s):=trivial
def a3Y(v:Value):Option (DataW Value×List MemPlace):=some (.held v,[])
def TxtView(D:DataW Value)(f:ByteArray->Option ByteArray):Prop:=Maps.IsMap D/\∀s,Maps.has D (a2s s)=(f s).isSome/\∀t,f s=some t->∀z,D.atKey (a2s s) z= .held (.string t)
def StkView(D:DataW Value)(g:ByteArray->Int):Prop:=Maps.IsMap D/\∀s,D.atKey (a2s s) (.held (.int .i64 0))= .held (.int .i64 (g s))
theorem TxtView.put{D:DataW Value}{f:ByteArray->Option ByteArray}(h:TxtView D f)(n t:ByteArray):TxtView (D.put (a2s n) (.held (.string t))) (upd f n (some t)):=by
 refine⟨h.1.put _ _,fun s=>?_⟩;by_cases e:s=n
 ·subst e;rw[a6Q];exact⟨Maps.has_put_same h.1 (abz _) _,fun t' ht z=>by cases ht;exact Maps.atKey_put_same h.1 (abz _) _ _⟩
 have hk:a2s s≠a2s n:=fun e2=>e (a9u e2);rw[a7N _ _ e,Maps.has_put_other hk];exact⟨(h.2 s).1,fun t' ht z=>by rw[Maps.atKey_put_other hk];exact(h.2 s).2 t' ht z⟩
theorem TxtView.del{D:DataW Value}{f:ByteArray->Option ByteArray}(h:TxtView D f)(n:ByteArray):TxtView (D.del (a2s n)) (upd f n none):=by
 refine⟨h.1.del _,fun s=>?_⟩;by_cases e:s=n
 ·subst e;rw[a6Q];exact⟨Maps.has_del_same,fun t' ht=>by cases ht⟩
 have hk:a2s s≠a2s n:=fun e2=>e (a9u e2);rw[a7N _ _ e,Maps.has_del_other hk];exact⟨(h.2 s).1,fun t' ht z=>by rw[Maps.atKey_del_other hk];exact(h.2 s).2 t' ht z⟩
theorem StkView.put{D:DataW Value}{g:ByteArray->Int}(h:StkView D g)(n:ByteArray)(m:Int):StkView (D.put (a2s n) (.held (.int .i64 m))) (upd g n m):=by
 refine⟨h.1.put _ _,fun s=>?_⟩;by_cases e:s=n
 ·subst e;rw[a6Q];exact Maps.atKey_put_same h.1 (abz _) _ _
 have hk:a2s s≠a2s n:=fun e2=>e (a9u e2);rw[a7N _ _ e,Maps.atKey_put_other hk];exact h.2 s
structure KnAt(w:World)(a b n:Nat)(k:Kn):Prop where
 ne:a≠b
 txt:∃D,w.ownsMap prog 9 a3Y a n D/\TxtView D k.txt
 stk:∃D,w.ownsMap prog 9 a3Y b n D/\StkView D k.stk
theorem a7Y{W W':World}{M n:Nat}{D:DataW Value}(h:W.ownsMap prog 9 a3Y M n D)(hk:W'.heap[M]? =W.heap[M]?):W'.ownsMap prog 9 a3Y M n D:=by
 obtain⟨es,ck,hb,h⟩:=h;exact⟨es,ck,hk.trans hb,h⟩
theorem KnAt.keep{w w':World}{a b n:Nat}{k:Kn}(h:KnAt w a b n k)(ha:w'.heap[a]? =w.heap[a]?)(hb:w'.heap[b]? =w.heap[b]?):KnAt w' a b n k:=by
 obtain⟨D1,h1,v1⟩:=h.txt;obtain⟨D2,h2,v2⟩:=h.stk;exact⟨h.ne,⟨D1,a7Y h1 ha,v1⟩,⟨D2,a7Y h2 hb,v2⟩⟩
theorem KnAt.mono{w:World}{a b n:Nat}{k:Kn}(h:KnAt w a b n k):KnAt w a b (n+1) k:=
 ⟨h.ne,(by obtain⟨D,h1,h2⟩:=h.txt;exact⟨D,h1.mono (aoS _),h2⟩),(by obtain⟨D,h1,h2⟩:=h.stk;exact⟨D,h1.mono (aoS _),h2⟩)⟩
theorem KnAt.lt{w:World}{a b n:Nat}{k:Kn}(h:KnAt w a b n k):a<w.heap.size/\b<w.heap.size:=by
 obtain⟨D1,h1,v1⟩:=h.txt;obtain⟨D2,h2,v2⟩:=h.stk;exact⟨h1.lt,h2.lt⟩
theorem KnAt.below{w w':World}{a b n:Nat}{k:Kn}(h:KnAt w a b n k)(hb:Below w.heap.size w w'):KnAt w' a b n k:=h.keep (hb.block _ h.lt.1) (hb.block _ h.lt.2)
theorem KnAt.new(w:World):KnAt ((w.alloc (.map #[] 0)).alloc (.map #[] 0)) w.heap.size (w.heap.size+1) 0 kn0:=by
 have h2:=World.ownsMap_made (w.alloc (.map #[] 0)) prog 9 a3Y;rw[aoq]at h2;exact⟨om,⟨_,(World.ownsMap_made w prog 9 a3Y).alloc _,Maps.isMap_empty,fun s=>⟨rfl,fun t h=>by cases h⟩⟩,⟨_,h2,Maps.isMap_empty,fun s=>rfl⟩⟩
theorem akJ(w:World):(zeroValue 9).run prog w= .ok (.string ⟨#[]⟩) w:=by
 have h:(prog.info? 9).map (fun i=>i.zero)=some (some (.string ⟨#[]⟩)):=ot
 obtain⟨i,hi,hz⟩:=Option.map_eq_some_iff.1 h;simp[zeroValue,typeInfo,Sem.run_bind,run_program,Result.andThen,hi,hz]
theorem akK(w:World):(zeroValue 3).run prog w= .ok (.int .i64 0) w:=by
 have h:(prog.info? 3).map (fun i=>i.zero)=some (some (.int .i64 0)):=ot
 obtain⟨i,hi,hz⟩:=Option.map_eq_some_iff.1 h;simp[zeroValue,typeInfo,Sem.run_bind,run_program,Result.andThen,hi,hz]
def abA(o:Option ByteArray):Value:=.tuple #[.string (o.getD emp),.bool o.isSome]
theorem KnAt.look{w:World}{a b n:Nat}{k:Kn}(h:KnAt w a b n k)(s:ByteArray)(hs:s.size<=1000000):
  (Instr.lookup 99 (.map (some a)) (.string s) true).run prog w= .ok (abA (k.txt s)) w:=by
 obtain⟨D,hD,hv⟩:=h.txt;obtain⟨v,ps,hrun,hr⟩:=hD.look_ok Tryz.keyedStr underlying99 (akJ w) (show a3Y (.string ⟨#[]⟩)=some (.held (.string ⟨#[]⟩),[])from rfl) (a6x hs);rw[hrun,(hv.2 s).1];simp only[a3Y,Option.some.injEq,Prod.mk.injEq]at hr;unfold abA;cases hx:k.txt s with
 |some t=>
  rw[(hv.2 s).2 t hx]at hr;obtain⟨h1,_⟩:=hr;cases h1
  rfl
 |none=>
  rw[Maps.atKey_of_not_has (by rw[(hv.2 s).1,hx];rfl)]at hr;obtain⟨h1,_⟩:=hr;cases h1
  rfl
theorem KnAt.lookI{w:World}{a b n:Nat}{k:Kn}(h:KnAt w a b n k)(s:ByteArray)(hs:s.size<=1000000):
  (Instr.lookup 100 (.map (some b)) (.string s) false).run prog w= .ok (.int .i64 (k.stk s)) w:=by
 obtain⟨D,hD,hv⟩:=h.stk;obtain⟨v,ps,hrun,hr⟩:=hD.lookup Tryz.keyedStr underlying100 (akK w) (show a3Y (.int .i64 0)=some (.held (.int .i64 0),[])from rfl) (a6x hs);rw[hrun];simp only[a3Y,Option.some.injEq,Prod.mk.injEq]at hr;rw[hv.2 s]at hr;obtain⟨h1,_⟩:=hr;cases h1
 rfl
theorem KnAt.put{w w':World}{a b n:Nat}{k:Kn}(h:KnAt w a b n k){s t:ByteArray}{D:DataW Value}(hv:TxtView D k.txt)(hD:w'.ownsMap prog 9 a3Y a (n+1) (D.put (a2s s) (.held (.string t))))(hg:w.grownBy w' (some a)):KnAt w' a b (n+1) ⟨upd k.txt s (some t),k.stk⟩:=by
 obtain⟨D2,h2,v2⟩:=h.stk;exact⟨h.ne,⟨_,hD,hv.put s t⟩,⟨D2,(h2.kept hg (by simpa using h.ne.symm)).mono (aoS _),v2⟩⟩
theorem KnAt.add{w w':World}{a b n:Nat}{k:Kn}(h:KnAt w a b n k){s:ByteArray}{m:Int}{D:DataW Value}(hv:StkView D k.stk)(hD:w'.ownsMap prog 9 a3Y b (n+1) (D.put (a2s s) (.held (.int .i64 m))))(hg:w.grownBy w' (some b)):KnAt w' a b (n+1) ⟨k.txt,upd k.stk s m⟩:=by
 obtain⟨D1,h1,v1⟩:=h.txt;exact⟨h.ne,⟨D1,(h1.kept hg (by simpa using h.ne)).mono (aoS _),v1⟩,⟨_,hD,hv.put s m⟩⟩
def knV(a b:Nat):Value:=.agg #[.map (some a),.map (some b)]
def abB(a b n:Nat)(r:(ByteArray×Int)×Kn)(w:World)(e:Ending)(w':World):Prop:=e= .returned (.tuple #[.string r.1.1,.int .i64 r.1.2])/\KnAt w' a b (n+1) r.2/\Off [a,b] w w'
theorem a7Z{w W W':World}{m:Nat}{F:List Nat}(h:Below w.heap.size w W)(hg:W.grownBy W' (some m))(hm:m∈F):Off F w W':=
 ⟨hg.os.trans h.os,hg.tape.trans h.tape,hg.output.trans h.output,aor h.size hg.size,fun k h1 h2=>(hg.block k (aox h1 h.size) (fun e=>by cases e;exact h2 hm)).trans (h.block k h1)⟩
theorem afR(a b n:Nat)(k:Kn)(s t:ByteArray)(hs:s.size<=1000000)(hn:n<=1000)(w:World)(h:KnAt w a b n k):
  Calls prog 284 #[.agg #[.string s,.string t],knV a b] w (abB a b n (a19 (.put s t) k) w):=by
 have hB:Below w.heap.size w ((w.alloc (.cells #[.string s,.string t] 136)).alloc (.cells #[.map (some a),.map (some b)] 102)):=((aoi _ w).alloc (aof _) _).alloc oz _
 have HA:=hid h.lt.1;have HK:=hid (h.below hB);have HB:=hid hB;obtain⟨D,hD,hv⟩:=HK.out.txt;have HV:=hid hv;have hk:=a6x hs;have HKey:=hid hk;clear h hB hv hk;unfold knV;go_enter func284,ntmps284;go_wp2_with (at_mapUpdate;refine wpList_mapUpdate_own _ rfl _ _ _ 99 rfl 9 9 Tryz.keyedStr underlying99 a3Y a n D rfl hD (by unfold maxLen;omega) _ _ (a2s s) rfl rfl HKey.out (.held (.string t)) [] rfl ?_)
 intro w1 hD1 hg1;have hlt:=HK.out.lt
 have c1:w1.cell? ⟨w.heap.size,1,none⟩=some (.string t):=by
  refine(World.cell?_of_block (hg1.block _ km (fun e=>?_))).trans oz
  have e2:w.heap.size=a:=Option.some.inj e;have:=HA.out;omega
 have HK1:=hid (HK.out.put HV.out hD1 hg1);have HO1:=hid (a7Z HB.out hg1 (F:=[a,b]) oz);clear hD1 hg1 hlt hD;go_wp2;go_ret2;exact⟨rfl,HK1.out,HO1.out⟩
theorem agC{w W W':World}{m:Nat}{F:List Nat}(h:Below w.heap.size w W)(hg:W.mapTurned W' m)(hm:m∈F):Off F w W':=a7Z h hg.grown hm
theorem a9v(a b n:Nat)(k:Kn)(s:ByteArray)(hs:s.size<=1000000)(_hn:n<=1000)(w:World)(h:KnAt w a b n k):
  Calls prog 285 #[.agg #[.string s],knV a b] w (abB a b n (a19 (.drop s) k) w):=by
 have hB:Below w.heap.size w ((w.alloc (.cells #[.string s] 138)).alloc (.cells #[.map (some a),.map (some b)] 102)):=((aoi _ w).alloc (aof _) _).alloc oz _
 have HK:=hid (h.below hB);have HB:=hid hB;have hlook:=HK.out.look s hs;obtain⟨D,hD,hv⟩:=HK.out.txt;have HV:=hid hv;have hk:=a6x hs;have HKey:=hid hk;clear h hB hv hk;unfold knV;cases hx:k.txt s with
 |none=>
  rw[hx]at hlook;have HR:Hid (a19 (.drop s) k=((emp,5),k)):=hid (by simp only[a19,hx]);rw[HR.out];unfold abA emp at hlook;simp only[Option.getD_none,apU]at hlook;clear hx;go_enter func285,ntmps285;go_wp2;go_ret2;exact⟨rfl,⟨HK.out.ne,(by obtain⟨D,h1,h2⟩:=HK.out.txt;exact⟨D,h1.mono (aoS _),h2⟩),(by obtain⟨D,h1,h2⟩:=HK.out.stk;exact⟨D,h1.mono (aoS _),h2⟩)⟩,Off.of_below HB.out⟩
 | some t=>
  rw[hx]at hlook;have HR:Hid (a19 (.drop s) k=((t,0),⟨upd k.txt s none,k.stk⟩)):=hid (by simp only[a19,hx]);rw[HR.out];unfold abA at hlook;simp only[aoW,apV]at hlook;clear hx;go_enter func285,ntmps285;go_wp2_with (at_delete;refine wpList_delete_own _ rfl _ _ 99 9 rfl 9 Tryz.keyedStr underlying99 a3Y a n D rfl hD _ (a2s s) rfl HKey.out ?_)
  intro w1 hD1 hg1
  have HK1:Hid (KnAt w1 a b (n+1) ⟨upd k.txt s none,k.stk⟩):=hid (by
   obtain⟨D2,h2,v2⟩:=HK.out.stk;exact⟨HK.out.ne,⟨_,hD1.mono (aoS _),HV.out.del s⟩,⟨D2,(h2.kept hg1.grown (by simpa using HK.out.ne.symm)).mono (aoS _),v2⟩⟩)
  have HO1:=hid (agC HB.out hg1 (F:=[a,b]) oz);clear hD1 hg1 hD hlook;go_wp2;go_ret2;exact⟨rfl,HK1.out,HO1.out⟩
theorem afS(a b n:Nat)(k:Kn)(s:ByteArray)(m:Int)(hs:s.size<=1000000)(hn:n<=1000)(hk0: -100000000<=k.stk s/\k.stk s<=100000000)(hm: -9999<=m/\m<=9999)(w:World)(hV:Vars w)(h:KnAt w a b n k)(ha:¬a1z a)(hb:¬a1z b):
  Calls prog 287 #[.agg #[.string s,.int .i64 m],knV a b] w (abB a b n (a19 (.add s m) k) w):=by
 have hB:Below w.heap.size w ((w.alloc (.cells #[.string s,.int .i64 m] 143)).alloc (.cells #[.map (some a),.map (some b)] 102)):=((aoi _ w).alloc (aof _) _).alloc oz _
 have HL0:=hid h.lt;have HK:=hid (h.below hB);have HB:=hid hB;have HVR:=hid hV;have hlook:=HK.out.lookI s hs;obtain⟨D,hD,hv⟩:=HK.out.stk;have HV:=hid hv;have hk:=a6x hs;have HKey:=hid hk;have HS:=hid hs;have HAV:=hid (And.intro ha hb);clear h hB hv hk hV ha hb;unfold knV;have HR:Hid (a19 (.add s m) k=((itoaB (k.stk s+m),0),⟨k.txt,upd k.stk s (k.stk s+m)⟩)):=hid rfl;rw[HR.out];obtain⟨z,hz⟩:∃z,z=k.stk s:=⟨_,rfl⟩
 have HZ:=hid hz;rw[<-hz]at hlook hk0⊢;clear hz;obtain⟨hk1,hk2⟩:=hk0;obtain⟨hm1,hm2⟩:=hm;have hwr:IntKind.i64.wrap (z+m)=z+m:=IntWalk.i64_in _ om;go_enter func287,ntmps287;go_wp2_with (at_mapUpdate;refine wpList_mapUpdate_own _ rfl _ _ _ 100 rfl 9 3 Tryz.keyedStr underlying100 a3Y b n D rfl hD (by unfold maxLen;omega) _ _ (a2s s) rfl rfl HKey.out (.held (.int .i64 (z+m))) [] rfl ?_)
 intro w1 hD1 hg1;have hl0:=HL0.out
 have hblk:∀j,j=w.heap.size\/j=w.heap.size+1->w1.heap[j]? =((w.alloc (.cells #[.string s,.int .i64 m] 143)).alloc (.cells #[.map (some a),.map (some b)] 102)).heap[j]? :=fun j hj=>hg1.block _ km (fun e=>by
  have e2:j=b:=Option.some.inj e;omega)
 have c1:w1.cell? ⟨w.heap.size,0,none⟩=some (.string s):=(World.cell?_of_block (hblk _ (.inl rfl))).trans oz
 have c2:w1.cell? ⟨w.heap.size+1,1,none⟩=some (.map (some b)):=(World.cell?_of_block (hblk _ (.inr rfl))).trans oz
 have HK1:=hid (HK.out.add HV.out hD1 hg1);have HO1:=hid (a7Z HB.out hg1 (F:=[a,b]) oz);have hlook1:=HK1.out.lookI s HS.out;have hst:upd k.stk s (z+m) s=z+m:=a6Q _ _ _;rw[show (Kn.mk k.txt (upd k.stk s (z+m))).stk s=z+m from hst]at hlook1
 have HV1:Hid (Vars w1):=hid (HVR.out.keep fun j hj=>HO1.out.block j (HVR.out.lt hj) (fun hm=>by
  rcases (by simpa using hm:j=a\/j=b)with rfl|rfl
  ·exact HAV.out.1 hj
  exact HAV.out.2 hj))
 clear hD1 hg1 hD hlook hblk hst hl0;go_wp2_with fail
 refine(itoa_any (z+m) om om w1 HV1.out).mono ?_
 rintro e w2 ⟨rfl,hb2⟩;have HK2:=hid (HK1.out.below hb2);have HO2:=hid (HO1.out.trans (Off.of_below hb2));clear hb2;go_wp2;go_ret2;exact⟨rfl,HK2.out,HO2.out⟩
end Go.Proofs.YtdfkaijeppdhaaaGreatDoor
namespace Go.Proofs.YtdfkaijeppdhaaaGreatDoor
open Lib (hid)
open Proofs.Tryz Go.RowKit Go.Shelf
def Cmd.deedO:Option Cmd->Bool
 |some c=>c.deed
 |none=>false
def Cmd.askO:Option Cmd->Bool
 |some c=> !c.deed
 |none=>false
def ifV(b:Bool)(v:Value):Value:=if b then v else .nilIface
theorem aaa(w:World):(Instr.typeAssert .nilIface 20 93 true).run prog w= .ok (.tuple #[.nilIface,.bool false]) w:=ot
theorem aab(p:Value)(w:World):(Instr.typeAssert (.iface 136 p) 20 93 true).run prog w= .ok (.tuple #[.iface 136 p,.bool true]) w:=ot
theorem a96(p:Value)(w:World):(Instr.typeAssert (.iface 138 p) 20 93 true).run prog w= .ok (.tuple #[.iface 138 p,.bool true]) w:=ot
theorem aac(p:Value)(w:World):(Instr.typeAssert (.iface 143 p) 20 93 true).run prog w= .ok (.tuple #[.iface 143 p,.bool true]) w:=ot
theorem a81(p:Value)(w:World):(Instr.typeAssert (.iface 139 p) 20 93 true).run prog w= .ok (.tuple #[.nilIface,.bool false]) w:=run_typeAssert_lacksB underlying93 ot ot p _ w
theorem a82(p:Value)(w:World):(Instr.typeAssert (.iface 146 p) 20 93 true).run prog w= .ok (.tuple #[.nilIface,.bool false]) w:=run_typeAssert_lacksB underlying93 ot ot p _ w
theorem a83(p:Value)(w:World):(Instr.typeAssert (.iface 185 p) 20 93 true).run prog w= .ok (.tuple #[.nilIface,.bool false]) w:=run_typeAssert_lacksB underlying93 ot ot p _ w
theorem amr(w:World):(Instr.typeAssert .nilIface 20 110 true).run prog w= .ok (.tuple #[.nilIface,.bool false]) w:=ot
theorem ams(p:Value)(w:World):(Instr.typeAssert (.iface 136 p) 20 110 true).run prog w= .ok (.tuple #[.nilIface,.bool false]) w:=run_typeAssert_lacksB underlying110 ot ot p _ w
theorem akL(p:Value)(w:World):(Instr.typeAssert (.iface 138 p) 20 110 true).run prog w= .ok (.tuple #[.nilIface,.bool false]) w:=run_typeAssert_lacksB underlying110 ot ot p _ w
theorem amt(p:Value)(w:World):(Instr.typeAssert (.iface 143 p) 20 110 true).run prog w= .ok (.tuple #[.nilIface,.bool false]) w:=run_typeAssert_lacksB underlying110 ot ot p _ w
theorem aiA(p:Value)(w:World):(Instr.typeAssert (.iface 139 p) 20 110 true).run prog w= .ok (.tuple #[.iface 139 p,.bool true]) w:=ot
theorem aiB(p:Value)(w:World):(Instr.typeAssert (.iface 146 p) 20 110 true).run prog w= .ok (.tuple #[.iface 146 p,.bool true]) w:=ot
theorem aiC(p:Value)(w:World):(Instr.typeAssert (.iface 185 p) 20 110 true).run prog w= .ok (.tuple #[.iface 185 p,.bool true]) w:=ot
theorem a3c{w0:World}{v:Value}{o:Option Cmd}(h:CmdO w0 v o)(w:World):(Instr.typeAssert v 20 93 true).run prog w= .ok (.tuple #[ifV (Cmd.deedO o) v,.bool (Cmd.deedO o)]) w:=by
 cases o with
 |none=>obtain rfl:v= .nilIface:=h;exact aaa w
 |some c=>
  cases c with
  |put n t=>obtain rfl:v=_:=h;exact aab _ w
  |drop n=>obtain rfl:v=_:=h;exact a96 _ w
  |add n m=>obtain rfl:v=_:=h;exact aac _ w
  |stock n=>obtain rfl:v=_:=h;exact a81 _ w
  |share n l=>obtain⟨s,rfl,_⟩:=h;exact a82 _ w
  |asked k l ns=>obtain⟨a,b,rfl,_⟩:=h;exact a83 _ w
theorem a4m{w0:World}{v:Value}{o:Option Cmd}(h:CmdO w0 v o)(w:World):(Instr.typeAssert v 20 110 true).run prog w= .ok (.tuple #[ifV (Cmd.askO o) v,.bool (Cmd.askO o)]) w:=by
 cases o with
 |none=>obtain rfl:v= .nilIface:=h;exact amr w
 |some c=>
  cases c with
  |put n t=>obtain rfl:v=_:=h;exact ams _ w
  |drop n=>obtain rfl:v=_:=h;exact akL _ w
  |add n m=>obtain rfl:v=_:=h;exact amt _ w
  |stock n=>obtain rfl:v=_:=h;exact aiA _ w
  |share n l=>obtain⟨s,rfl,_⟩:=h;exact aiB _ w
  |asked k l ns=>obtain⟨a,b,rfl,_⟩:=h;exact aiC _ w
theorem aad(p:Value)(w:World):(method 462 136 p "skimmer/post.say").run prog w= .ok (284,p) w:=ot
theorem a6m(p:Value)(w:World):(method 462 138 p "skimmer/post.say").run prog w= .ok (285,p) w:=ot
theorem aae(p:Value)(w:World):(method 462 143 p "skimmer/post.say").run prog w= .ok (287,p) w:=ot
theorem adz(p:Value)(w:World):(method 462 139 p "skimmer/post.ask").run prog w= .ok (286,p) w:=ot
theorem adA(p:Value)(w:World):(method 462 146 p "skimmer/post.ask").run prog w= .ok (288,p) w:=ot
theorem adB(p:Value)(w:World):(method 462 185 p "skimmer/post.ask").run prog w= .ok (338,p) w:=ot
theorem aiD(p:Value)(w:World):(nilAhead 462 136 p "skimmer/post.say").run prog w= .ok (some false) w:=ot
theorem aaf(p:Value)(w:World):(nilAhead 462 138 p "skimmer/post.say").run prog w= .ok (some false) w:=ot
theorem aiE(p:Value)(w:World):(nilAhead 462 143 p "skimmer/post.say").run prog w= .ok (some false) w:=ot
theorem af4(p:Value)(w:World):(nilAhead 462 139 p "skimmer/post.ask").run prog w= .ok (some false) w:=ot
theorem af5(p:Value)(w:World):(nilAhead 462 146 p "skimmer/post.ask").run prog w= .ok (some false) w:=ot
theorem af6(p:Value)(w:World):(nilAhead 462 185 p "skimmer/post.ask").run prog w= .ok (some false) w:=ot
theorem Cmd.names_small{s:ByteArray}{c:Cmd}(h:a08 s=some c):(∀n t,c= .put n t->n.size<=8)/\(∀n,c= .drop n->n.size<=8)/\(∀n m,c= .add n m->n.size<=8/\ -9999<=m/\m<=9999)/\(∀n,c= .stock n->n.size<=8)/\(∀m l,c= .share m l->∀x∈l,x.size<=8)/\(∀k l ns,c= .asked k l ns->∀x∈l,x.size<=8):=by
 have hn:∀x,a03 x=true->x.size<=8:=fun x hx=>((a6l x).1 hx).2.1
 unfold a08 at h;split at h
 ·rename_i w r0 rs _
  unfold a0Y at h;split at h
  ·split at h
   ·rename_i hc
    rw[Bool.and_eq_true,Bool.and_eq_true]at hc;cases h
    exact⟨fun n t e=>by cases e;exact hn _ hc.1.1,by simp,by simp,by simp,by simp,by simp⟩
   cases h
  split at h
  ·split at h
   ·rename_i hc
    rw[Bool.and_eq_true]at hc;cases h
    exact⟨by simp,fun n e=>by cases e;exact hn _ hc.2,by simp,by simp,by simp,by simp⟩
   cases h
  split at h
  ·split at h
   ·rename_i hc
    rw[Bool.and_eq_true]at hc;cases h
    exact⟨by simp,by simp,by simp,fun n e=>by cases e;exact hn _ hc.2,by simp,by simp⟩
   cases h
  split at h
  ·split at h
   ·rename_i n2 hn2
    split at h
    ·rename_i hc
     cases h
     obtain⟨r,_,hr⟩:=a9r hn2;exact⟨by simp,by simp,fun n m e=>by cases e;exact⟨hn _ hc,(a4c hr).2⟩,by simp,by simp,by simp⟩
    cases h
   cases h
  split at h
  ·split at h
   ·split at h
    ·rename_i hc
     rw[Bool.and_eq_true]at hc;cases h
     exact⟨by simp,by simp,by simp,by simp,fun m l e x hx=>by cases e;exact hn _ (ap6.1 hc.1 x hx),by simp⟩
    cases h
   cases h
  unfold a2j at h;split at h
  ·cases h
  split at h
  ·cases h
  split at h
  ·rename_i hall _
   cases h
   exact⟨by simp,by simp,by simp,by simp,by simp,fun k l ns e x hx=>by cases e;exact hn _ (ap6.1 hall x hx)⟩
  cases h
 cases h
end Go.Proofs.YtdfkaijeppdhaaaGreatDoor
namespace Go.Proofs.YtdfkaijeppdhaaaGreatDoor
open Lib (hid)
open Proofs.Tryz Go.RowKit Go.Shelf
theorem a84:∀(l:List Ent) (k:Kn) (B:Int),(∀s, -B<=k.stk s/\k.stk s<=B)->∀s, -(B+9999 * l.length)<=(a1Z k l).stk s/\(a1Z k l).stk s<=B+9999 * l.length
 |[],k,B,h,s=>by have:=h s;simpa [a1Z]using this
 | e :: l,k,B,h,s=>by
  have h2 :∀s, -(B+9999)<=(a10 k (a0b e)).stk s/\(a10 k (a0b e)).stk s<=B+9999:=fun s=>by
   have h3:=h s;unfold a10;cases hp:a08 (a0b e)with
   |none=>simp only;omega
   | some c=>
    simp only;cases c with
    |put n t=>simp only[Cmd.deed,if_true,a19];omega
    |drop n=>
     simp only[Cmd.deed,if_true,a19];cases k.txt n<;>simp only<;>omega
    | add n m=>
     simp only[Cmd.deed,if_true,a19]
     have hm: -9999<=m/\m<=9999:=by
      unfold a08 at hp;split at hp
      ·rename_i w r0 rs _
       unfold a0Y at hp;split at hp
       ·split at hp<;>cases hp
       split at hp
       ·split at hp<;>cases hp
       split at hp
       ·split at hp<;>cases hp
       split at hp
       ·split at hp
        ·rename_i n2 hn2
         split at hp
         ·cases hp
          obtain⟨r,_,hr⟩:=a9r hn2;exact(a4c hr).2
         cases hp
        cases hp
       split at hp
       ·split at hp
        ·split at hp<;>cases hp
        cases hp
       have:=a9q hp;cases this
      cases hp
     unfold upd;split
     ·rename_i e2;subst e2;omega
     omega
    |stock n=>simp only[Cmd.deed,Bool.false_eq_true,if_false];omega
    |share n l=>simp only[Cmd.deed,Bool.false_eq_true,if_false];omega
    |asked k l ns=>simp only[Cmd.deed,Bool.false_eq_true,if_false];omega
  have:=a84 l (a10 k (a0b e)) (B+9999) h2 s;show-(B+9999 * ((l.length+1:Nat):Int))<=(a1Z (a10 k (a0b e)) l).stk s/\_<=_
  show-(B+9999 * ((l.length+1:Nat):Int))<=(a1Z (a10 k (a0b e)) l).stk s/\(a1Z (a10 k (a0b e)) l).stk s<=B+9999 * ((l.length+1:Nat):Int)
  omega
theorem a4x(l:List Ent)(h:l.length<=1000)(s:ByteArray): -100000000<=(a0e l).stk s/\(a0e l).stk s<=100000000:=by
 have:=a84 l kn0 0 (fun s=>by simp[kn0]) s;unfold a0e;omega
theorem aiF{l:List Ent}{i:Nat}(h:i<l.length):a0e (l.take (i+1))=a10 (a0e (l.take i)) (a0b (l.getD i noE)):=by
 rw[aon h,agq,aoh,aoj h];rfl
theorem getD_mem'{l:List Ent}{i:Nat}(h:i<l.length):l.getD i noE∈l:=by
 rw[aoh,aoj h];exact aoZ h
def akM(l:List Ent)(w:World)(e:Ending)(w':World):Prop:=∃a b,e= .returned (knV a b)/\KnAt w' a b l.length (a0e l)/\w.heap.size<=a/\w.heap.size<=b/\Below w.heap.size w w'
theorem a4Y{n:Nat}{F:List Nat}{w0 w w':World}(hb:Below n w0 w)(hs:n<=w.heap.size)(h:Off F w w')(hF:∀k∈F,n<=k):Below n w0 w':=hb.trans (h.below hs hF)
theorem a3Z(v:Value)(l:List Ent)(w:World)(hv:EntsAt w v l)(hl:l.length<=1000)(hok:∀e∈l,(a0b e).size<=60)(hV:Vars w):
  Calls prog 56 #[v] w (akM l w):=by
 have HVR:=hid hV;have HOK:=hid hok;clear hV hok;by_cases h0:0<l.length
 ·obtain⟨bk,off,cap,rfl,hc⟩:=hv.cells h0;have HC:=hid hc;clear hc hv;obtain⟨nl,hnl⟩:∃nl,nl=l.length:=⟨_,rfl⟩
  have HN:=hid hnl;rw[<-hnl]at h0 hl⊢;clear hnl;have hmm:=@run_makeMap prog;go_enter func56,ntmps56;go_wp2;obtain⟨w2,hw2⟩:∃w2,w2=((((w.alloc (.cells #[.map none,.map none] 102)).alloc (.map #[] 0)).alloc (.map #[] 0)).alloc (.cells #[.map (some (w.heap.size+1)),.map (some (w.heap.size+1+1))] 102)):=⟨_,rfl⟩
  rw[<-hw2];have hz2:w2.heap.size=w.heap.size+4:=by rw[hw2];simp
  have HB2:Hid (Below w.heap.size w w2):=hid (by rw[hw2];exact((((aoi _ w).alloc (aof _) _).alloc oz _).alloc km _).alloc km _)
  have HK2:Hid (KnAt w2 (w.heap.size+1) (w.heap.size+2) 0 kn0):=hid (by
   have h:=(KnAt.new (w.alloc (.cells #[.map none,.map none] 102))).below ((aoi _ _).alloc (aof _) (.cells #[.map (some (w.heap.size+1)),.map (some (w.heap.size+1+1))] 102))
   rw[<-hw2]at h;simpa using h)
  have HR2:Hid (w2.heap[w.heap.size]? =some (.cells #[.map none,.map none] 102 (0,0))):=hid (by
   rw[hw2];refine(aop _ _ _ km).trans ((aop _ _ _ km).trans ((aop _ _ _ oz).trans (World.alloc_heap_new w _))))
  have HX2:Hid (w2.heap[w.heap.size+3]? =some (.cells #[.map (some (w.heap.size+1)),.map (some (w.heap.size+2))] 102 (0,0))):=hid (by
   have h:=World.alloc_heap_new (((w.alloc (.cells #[.map none,.map none] 102)).alloc (.map #[] 0)).alloc (.map #[] 0)) (.cells #[.map (some (w.heap.size+1)),.map (some (w.heap.size+1+1))] 102);rw[<-hw2]at h;simpa using h)
  have HV2:=hid (HVR.out.below HB2.out);have HVL:=hid (fun k (hk:a1z k)=>HVR.out.lt hk);clear hw2 hmm;go_loopw [13] (fun i wr=>∃k:Nat,k<=nl/\i= .int .i64 k/\Hid (KnAt wr (w.heap.size+1) (w.heap.size+2) k (a0e (l.take k)))/\Hid (Off [w.heap.size+1,w.heap.size+2] w2 wr)) (fun i _=>nl-(intOf i).toNat)
  case atStart=>exact⟨0,aot _,rfl,HK2,hid (Off.refl _ _)⟩
  case round=>
   obtain⟨k,hk,rfl,hkn,hoff⟩:=hrel;have hsz:w2.heap.size<=wr.heap.size:=hoff.out.size;have HBw:Hid (Below w.heap.size w wr):=hid (a4Y HB2.out om hoff.out oz);have HXr:Hid (wr.heap[w.heap.size+3]? =some (.cells #[.map (some (w.heap.size+1)),.map (some (w.heap.size+2))] 102 (0,0))):=hid ((hoff.out.block _ om oz).trans HX2.out);have HRr:Hid (wr.heap[w.heap.size]? =some (.cells #[.map none,.map none] 102 (0,0))):=hid ((hoff.out.block _ om oz).trans HR2.out);by_cases hlt:k<nl
   ·have hcs:=HC.out k (by rw[<-HN.out];exact hlt);have HT:=hid (aiF (l:=l) (i:=k) (by rw[<-HN.out];exact hlt));have HLN:=hid (HOK.out _ (getD_mem' (l:=l) (i:=k) (by rw[<-HN.out];exact hlt)));have HSB:=hid (a4x (l.take k) (by rw[aoy];omega));rw[show ((0,0,0,⟨#[]⟩):Ent)=noE from rfl]at hcs;generalize l.getD k noE=en at *;obtain⟨q0,q1,q2,q3⟩:=hcs;have d0:=keep_cell HBw.out q0;have d1:=keep_cell HBw.out q1;have d2:=keep_cell HBw.out q2;have d3:=keep_cell HBw.out q3;clear q0 q1 q2 q3;go_wp2_with fail
    obtain⟨w3,hw3⟩:∃w3,w3=wr.alloc (.cells #[.int .i64 (a07 en),.int .i64 (a0r en),.int .i64 (a0a en),.string (a0b en)] 43):=⟨_,rfl⟩
    rw[<-hw3];have HB3:Hid (Below wr.heap.size wr w3):=hid (by rw[hw3];exact(aoi _ _).alloc (aof _) _);have HV3:Hid (Vars w3):=hid ((HV2.out.keep (fun j hj=>hoff.out.block j (by have:=HVL.out j hj;omega) (by have:=HVL.out j hj;simp;omega))).below HB3.out);clear hw3 d0 d1 d2 d3;refine(a1U _ (by have:=HLN.out;omega) _ HV3.out).mono ?_
    rintro e w4 ⟨⟨pv,rfl,hpv⟩,hb4⟩;have HB4:=hid (below_trans HB3.out hb4);have c0:w4.cell? ⟨w.heap.size+3,0,none⟩=some (.map (some (w.heap.size+1))):=keep_cell HB4.out (heap_cell HXr.out rfl);have c1:w4.cell? ⟨w.heap.size+3,1,none⟩=some (.map (some (w.heap.size+2))):=keep_cell HB4.out (heap_cell HXr.out rfl);have HK4:=hid (hkn.out.below HB4.out);have HV4:=hid (HV3.out.below hb4);clear hb4;cases hp:a08 (a0b en)with
    |none=>
     rw[hp]at hpv;obtain rfl:pv= .nilIface:=hpv
     have hta:=aaa w4;have HNX:Hid (a0e (l.take (k+1))=a0e (l.take k)):=hid (by rw[HT.out];unfold a10;rw[hp]);have HKX:Hid (KnAt w4 (w.heap.size+1) (w.heap.size+2) (k+1) (a0e (l.take (k+1)))):=hid (by rw[HNX.out];exact HK4.out.mono);have HOX:=hid (hoff.out.trans (Off.of_below HB4.out));clear hp;go_wp2;go_roundw
     case rel=>exact⟨k+1,om,by go_num,HKX,HOX⟩
     case measure=>simp[intOf];omega
    | some c=>
     cases c with
     |put n t=>
      rw[hp]at hpv;obtain rfl:pv=_:=hpv;have hta:=aab (.agg #[.string n,.string t]) w4;have hme:=aad (.agg #[.string n,.string t]) w4;have HDC:=hid (afR (w.heap.size+1) (w.heap.size+2) k (a0e (l.take k)) n t (by have:=(Cmd.names_small hp).1 n t rfl;omega) om w4 HK4.out);have HNX:Hid (a0e (l.take (k+1))=(a19 (.put n t) (a0e (l.take k))).2):=hid (by rw[HT.out];unfold a10;rw[hp];rfl);clear hp;go_wp2_with fail
      refine HDC.out.mono ?_;rintro e w5 ⟨rfl,hk5,ho5⟩;have HKX:Hid (KnAt w5 (w.heap.size+1) (w.heap.size+2) (k+1) (a0e (l.take (k+1)))):=hid (by rw[HNX.out];exact hk5);have HOX:=hid ((hoff.out.trans (Off.of_below HB4.out)).trans ho5);clear hk5 ho5 hta hme;go_wp2;go_roundw
      case rel=>exact⟨k+1,om,by go_num,HKX,HOX⟩
      case measure=>simp[intOf];omega
     |drop n=>
      rw[hp]at hpv;obtain rfl:pv=_:=hpv;have hta:=a96 (.agg #[.string n]) w4;have hme:=a6m (.agg #[.string n]) w4;have HDC:=hid (a9v (w.heap.size+1) (w.heap.size+2) k (a0e (l.take k)) n (by have:=(Cmd.names_small hp).2.1 n rfl;omega) om w4 HK4.out);have HNX:Hid (a0e (l.take (k+1))=(a19 (.drop n) (a0e (l.take k))).2):=hid (by rw[HT.out];unfold a10;rw[hp];rfl);clear hp;go_wp2_with fail
      refine HDC.out.mono ?_;rintro e w5 ⟨rfl,hk5,ho5⟩;have HKX:Hid (KnAt w5 (w.heap.size+1) (w.heap.size+2) (k+1) (a0e (l.take (k+1)))):=hid (by rw[HNX.out];exact hk5);have HOX:=hid ((hoff.out.trans (Off.of_below HB4.out)).trans ho5);clear hk5 ho5 hta hme;go_wp2;go_roundw
      case rel=>exact⟨k+1,om,by go_num,HKX,HOX⟩
      case measure=>simp[intOf];omega
     |add n m=>
      rw[hp]at hpv;obtain rfl:pv=_:=hpv;have hta:=aac (.agg #[.string n,.int .i64 m]) w4;have hme:=aae (.agg #[.string n,.int .i64 m]) w4;have HDC:=hid (afS (w.heap.size+1) (w.heap.size+2) k (a0e (l.take k)) n m (by have:=((Cmd.names_small hp).2.2.1 n m rfl).1;omega) om (HSB.out n) ((Cmd.names_small hp).2.2.1 n m rfl).2 w4 HV4.out HK4.out (fun h=>by have:=HVL.out _ h;omega) (fun h=>by have:=HVL.out _ h;omega));have HNX:Hid (a0e (l.take (k+1))=(a19 (.add n m) (a0e (l.take k))).2):=hid (by rw[HT.out];unfold a10;rw[hp];rfl);clear hp;go_wp2_with fail
      refine HDC.out.mono ?_;rintro e w5 ⟨rfl,hk5,ho5⟩;have HKX:Hid (KnAt w5 (w.heap.size+1) (w.heap.size+2) (k+1) (a0e (l.take (k+1)))):=hid (by rw[HNX.out];exact hk5);have HOX:=hid ((hoff.out.trans (Off.of_below HB4.out)).trans ho5);clear hk5 ho5 hta hme;go_wp2;go_roundw
      case rel=>exact⟨k+1,om,by go_num,HKX,HOX⟩
      case measure=>simp[intOf];omega
     |stock n=>
      rw[hp]at hpv;obtain rfl:pv=_:=hpv;have hta:=a81 (.agg #[.string n]) w4;have HNX:Hid (a0e (l.take (k+1))=a0e (l.take k)):=hid (by rw[HT.out];unfold a10;rw[hp];rfl);have HKX:Hid (KnAt w4 (w.heap.size+1) (w.heap.size+2) (k+1) (a0e (l.take (k+1)))):=hid (by rw[HNX.out];exact HK4.out.mono);have HOX:=hid (hoff.out.trans (Off.of_below HB4.out));clear hp;go_wp2;go_roundw
      case rel=>exact⟨k+1,om,by go_num,HKX,HOX⟩
      case measure=>simp[intOf];omega
     |share n ll=>
      rw[hp]at hpv;obtain⟨sv,rfl,_⟩:=hpv;have hta:=a82 (.agg #[.int .i64 n,sv]) w4;have HNX:Hid (a0e (l.take (k+1))=a0e (l.take k)):=hid (by rw[HT.out];unfold a10;rw[hp];rfl);have HKX:Hid (KnAt w4 (w.heap.size+1) (w.heap.size+2) (k+1) (a0e (l.take (k+1)))):=hid (by rw[HNX.out];exact HK4.out.mono);have HOX:=hid (hoff.out.trans (Off.of_below HB4.out));clear hp;go_wp2;go_roundw
      case rel=>exact⟨k+1,om,by go_num,HKX,HOX⟩
      case measure=>simp[intOf];omega
     |asked kk ll ns=>
      rw[hp]at hpv;obtain⟨av,bv,rfl,_⟩:=hpv;have hta:=a83 (.agg #[av,bv,.func (.func (a5k kk)) #[] #[]]) w4;have HNX:Hid (a0e (l.take (k+1))=a0e (l.take k)):=hid (by rw[HT.out];unfold a10;rw[hp];rfl);have HKX:Hid (KnAt w4 (w.heap.size+1) (w.heap.size+2) (k+1) (a0e (l.take (k+1)))):=hid (by rw[HNX.out];exact HK4.out.mono);have HOX:=hid (hoff.out.trans (Off.of_below HB4.out));clear hp;go_wp2;go_roundw
      case rel=>exact⟨k+1,om,by go_num,HKX,HOX⟩
      case measure=>simp[intOf];omega
   have e:k=nl:=om;subst e
   have HKE:Hid (KnAt wr (w.heap.size+1) (w.heap.size+2) l.length (a0e l)):=hid (by
    have h:=hkn.out;rw[HN.out,aoK]at h;exact h)
   have c0:=heap_cell (j:=0) HXr.out rfl;have c1:=heap_cell (j:=1) HXr.out rfl;have r0:=heap_cell (j:=0) HRr.out rfl;have f0:wr.frozen? ⟨w.heap.size,0,none⟩=false:=by have:=HRr.out;simp[World.frozen?,this]
   have f1:wr.frozen? ⟨w.heap.size,1,none⟩=false:=by have:=HRr.out;simp[World.frozen?,this]
   have r1:=heap_cell (j:=1) HRr.out rfl;go_wp2;refine bodyPost_ret (v:=knV (w.heap.size+1) (w.heap.size+2)) (by simp[results,results56,go_sem,knV,r0,r1]) rfl ⟨_,_,rfl,(HKE.out.keep ?_ ?_),om,om,?_⟩
   ·exact(aok _ _ _ _ (by show w.heap.size+1≠w.heap.size;omega)).trans (aok _ _ _ _ (by show w.heap.size+1≠w.heap.size;omega))
   ·exact(aok _ _ _ _ (by show w.heap.size+2≠w.heap.size;omega)).trans (aok _ _ _ _ (by show w.heap.size+2≠w.heap.size;omega))
   exact(HBw.out.setCell (p:=⟨w.heap.size,0,none⟩) (aof _) _).setCell (p:=⟨w.heap.size,1,none⟩) (aof _) _
 have hz:l=[]:=aoz.1 om;subst hz;obtain⟨a0,cap,rfl,_⟩:=hv;clear h0;have hmm:=@run_makeMap prog;go_enter func56,ntmps56;go_wp2;obtain⟨w2,hw2⟩:∃w2,w2=((((w.alloc (.cells #[.map none,.map none] 102)).alloc (.map #[] 0)).alloc (.map #[] 0)).alloc (.cells #[.map (some (w.heap.size+1)),.map (some (w.heap.size+1+1))] 102)):=⟨_,rfl⟩
 rw[<-hw2];have hz2:w2.heap.size=w.heap.size+4:=by rw[hw2];simp
 have HB2:Hid (Below w.heap.size w w2):=hid (by rw[hw2];exact((((aoi _ w).alloc (aof _) _).alloc oz _).alloc km _).alloc km _)
 have HK2:Hid (KnAt w2 (w.heap.size+1) (w.heap.size+2) 0 kn0):=hid (by
  have h:=(KnAt.new (w.alloc (.cells #[.map none,.map none] 102))).below ((aoi _ _).alloc (aof _) (.cells #[.map (some (w.heap.size+1)),.map (some (w.heap.size+1+1))] 102))
  rw[<-hw2]at h;simpa using h)
 have HRr:Hid (w2.heap[w.heap.size]? =some (.cells #[.map none,.map none] 102 (0,0))):=hid (by
  rw[hw2];refine(aop _ _ _ km).trans ((aop _ _ _ km).trans ((aop _ _ _ oz).trans (World.alloc_heap_new w _))))
 have HXr:Hid (w2.heap[w.heap.size+3]? =some (.cells #[.map (some (w.heap.size+1)),.map (some (w.heap.size+2))] 102 (0,0))):=hid (by
  have h:=World.alloc_heap_new (((w.alloc (.cells #[.map none,.map none] 102)).alloc (.map #[] 0)).alloc (.map #[] 0)) (.cells #[.map (some (w.heap.size+1)),.map (some (w.heap.size+1+1))] 102);rw[<-hw2]at h;simpa using h)
 clear hw2 hmm;go_loopw [13] (fun i wr=>i= .int .i64 0/\w2=wr) (fun _ _=>0)
 case atStart=>exact⟨rfl,rfl⟩
 case round=>
  obtain⟨rfl,rfl⟩:=hrel;have c0:=heap_cell (j:=0) HXr.out rfl;have c1:=heap_cell (j:=1) HXr.out rfl;have r0:=heap_cell (j:=0) HRr.out rfl;have f0:w2.frozen? ⟨w.heap.size,0,none⟩=false:=by have:=HRr.out;simp[World.frozen?,this]
  have f1:w2.frozen? ⟨w.heap.size,1,none⟩=false:=by have:=HRr.out;simp[World.frozen?,this]
  have r1:=heap_cell (j:=1) HRr.out rfl;go_wp2;refine bodyPost_ret (v:=knV (w.heap.size+1) (w.heap.size+2)) (by simp[results,results56,go_sem,knV,r0,r1]) rfl ⟨_,_,rfl,(HK2.out.keep ?_ ?_),om,om,?_⟩
  ·exact(aok _ _ _ _ (by show w.heap.size+1≠w.heap.size;omega)).trans (aok _ _ _ _ (by show w.heap.size+1≠w.heap.size;omega))
  ·exact(aok _ _ _ _ (by show w.heap.size+2≠w.heap.size;omega)).trans (aok _ _ _ _ (by show w.heap.size+2≠w.heap.size;omega))
  exact(HB2.out.setCell (p:=⟨w.heap.size,0,none⟩) (aof _) _).setCell (p:=⟨w.heap.size,1,none⟩) (aof _) _
end Go.Proofs.YtdfkaijeppdhaaaGreatDoor
