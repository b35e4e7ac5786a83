/- Part of the proof. -/
import Derived.Shelf.Utf8.RuneCount
import Derived.Shelf.Strings.Builder2Cap
import Derived.Shelf.Strconv.ParseUintEmpty
import Derived.Shelf.Strconv.ParseUint10b64
import Derived.Shelf.Strconv.ParseUint10b32
import Derived.Shelf.Strconv.ParseUint10b16
import Derived.Shelf.Strconv.ParseUint10b8
import Derived.Shelf.Sort.Plain
import Derived.Shelf.Strings.Explode
import Derived.Shelf.Slices.SearchI
import Derived.Shelf.Slices.In.SortNone
import Derived.Shelf.SlSortCmp.NoneTotal
import Derived.Test.YtdfkaijeppdhaaaGreatDoorZHs03
import Derived.Shelf.Strings.SlTrimAscii
set_option maxRecDepth 100000
set_option maxHeartbeats 8000000
set_option linter.unusedSimpArgs false
set_option linter.unusedVariables false

namespace Go.Proofs
open Proofs.Tryz Go.Shelf
def Tryz.lays160_ren:Go.Shelf.Ren:=⟨fun|160=>251|232=>257|231=>256|227=>258|234=>260|233=>259|236=>262|235=>261|228=>263|271=>265|151=>264|197=>211|120=>267|152=>266|260=>239|137=>126|119=>268|224=>185|225=>184|217=>165|266=>209|n=>n,fun|9=>9|4=>4|3=>3|5=>5|117=>312|116=>311|0=>0|124=>315|21=>21|105=>267|46=>189|119=>304|139=>307|138=>306|n=>n,fun|3=>6|4=>7|n=>n⟩
theorem lays160:Go.Proofs.Lays.n160 prog Tryz.lays160_ren:={
 mixed:=ot
 f119:=func268.trans oq
 f120:=func267.trans oq
 f137:=func126.trans oq
 f151:=func264.trans oq
 f152:=func266.trans oq
 f160:=func251.trans oq
 f197:=func211.trans oq
 f217:=func165.trans oq
 f224:=func185.trans oq
 f225:=func184.trans oq
 f227:=func258.trans oq
 f228:=func263.trans oq
 f231:=func256.trans oq
 f232:=func257.trans oq
 f233:=func259.trans oq
 f234:=func260.trans oq
 f235:=func261.trans oq
 f236:=func262.trans oq
 f260:=func239.trans oq
 f266:=func209.trans oq
 f271:=func265.trans oq
 t0:=underlying0
 a0:=isAgg0
 z0:=sizeOf0
 v0:=zeroValue0
 t3:=underlying3
 a3:=isAgg3
 z3:=sizeOf3
 v3:=zeroValue3
 t4:=underlying4
 a4:=isAgg4
 z4:=sizeOf4
 v4:=zeroValue4
 t5:=underlying5
 a5:=isAgg5
 z5:=sizeOf5
 v5:=zeroValue5
 t9:=underlying9
 a9:=isAgg9
 z9:=sizeOf9
 v9:=zeroValue9
 t21:=underlying21
 a21:=isAgg21
 z21:=sizeOf21
 v21:=zeroValue21
 t46:=underlying189
 a46:=isAgg189
 z46:=sizeOf189
 v46:=zeroValue189
 t105:=underlying267
 a105:=isAgg267
 z105:=sizeOf267
 v105:=zeroValue267
 t116:=underlying311
 a116:=isAgg311
 z116:=sizeOf311
 t117:=underlying312
 a117:=isAgg312
 z117:=sizeOf312
 v117:=zeroValue312
 t119:=underlying304
 a119:=isAgg304
 z119:=sizeOf304
 t124:=underlying315
 a124:=isAgg315
 z124:=sizeOf315
 v124:=zeroValue315
 t138:=underlying306
 a138:=isAgg306
 z138:=sizeOf306
 v138:=zeroValue306
 t139:=underlying307
 a139:=isAgg307
 z139:=sizeOf307
 v139:=zeroValue307
 g3:=ot
 g4:=by kernel_rfl}
end Go.Proofs
namespace Go.Proofs.YtdfkaijeppdhaaaGreatDoor
open Lib (hid)
open Proofs.Tryz Go.RowKit Go.Shelf
def peaksL:List UInt8:=[97,98,99,100,101,102,103,104]
def a2b(s:ByteArray):Bool:=decide (s.size<=20)&&(Lib.trimS s.data.toList peaksL).isEmpty
theorem ah0(s:ByteArray)(w:World)(hs:s.size<=1000000):
  Calls prog 251 #[.string s,.string ⟨#[97,98,99,100,101,102,103,104]⟩] w fun e w'=>e= .returned (.string ⟨(Lib.trimS s.data.toList peaksL).toArray⟩)/\Below w.heap.size w w':=by
 have H:=Any.strings_Trim_laid lays160 ot s ⟨#[97,98,99,100,101,102,103,104]⟩ w om ox (ascii_of_all ox);exact H
def a4p(c:UInt8):Bool:=peaksL.contains c
theorem drop_nil{α:Type}(p:α->Bool):∀l:List α,l.dropWhile p=[]↔∀x∈l,p x=true
 |[]=>by simp
 |x::r=>by
  have ih:=drop_nil p r;rw[List.dropWhile_cons];cases hp:p x with
  |true=>simp[ih,hp]
  |false=>simp[hp]
theorem ah1(l:List UInt8):(Lib.trimS l peaksL).isEmpty=l.all a4p:=by
 unfold Lib.trimS Lib.trimLeftS Lib.trimRightS;rw[Bool.eq_iff_iff,List.isEmpty_iff,drop_nil,ap6];constructor
 ·intro h x hx;by_cases hm:x∈(l.reverse.dropWhile (peaksL.contains ·)).reverse
  ·exact h x hm
  rw[List.mem_reverse]at hm;have h1:x∈l.reverse:=by simpa using hx
  rw[<-List.takeWhile_append_dropWhile (p:=(peaksL.contains ·)) (l:=l.reverse)]at h1;rcases aoI.1 h1 with h2|h2
  ·exact ap6.1 (List.all_takeWhile) x h2
  exact absurd h2 hm
 intro h x hx;rw[List.mem_reverse]at hx;exact h x (by simpa using (List.dropWhile_sublist _).subset hx)
theorem a6s(s:ByteArray)(w:World)(hs:s.size<=1000000):
  Calls prog 234 #[.string s] w fun e w'=>e= .returned (.bool (a2b s))/\Below w.heap.size w w':=by
 have HT:=hid (ah0 s w hs);obtain⟨T,hT⟩:∃T,T=Lib.trimS s.data.toList peaksL:=⟨_,rfl⟩
 unfold a2b;rw[<-hT]at HT⊢;clear hT;by_cases h:s.size<=20
 ·have h1:(s.size:Int)<=20:=om;go_enter func234,ntmps234;go_wp2_with (first|(go_at_call 251;refine HT.out.mono ?_;rintro e w1 ⟨rfl,hb1⟩)|fail)
  go_ret;cases T<;>exact⟨by simp[h],hb1⟩
 have h1:¬(s.size:Int)<=20:=om;go_enter func234,ntmps234;go_wp2_with fail
 go_ret;exact⟨by simp[h],aoi _ _⟩
end Go.Proofs.YtdfkaijeppdhaaaGreatDoor
