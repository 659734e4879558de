/- Actions; how much an action is, and what is known. No condition beyond each theorem's own. -/
import Derived.Test.YtooipdkilgpojaaGreatDoorBX2ToBL0
import Derived.Test.YtooipdkilgpojaaGreatDoorBX4ToBX6
import Derived.Test.YtooipdkilgpojaaGreatDoorK20ToK21
import Derived.Test.YtooipdkilgpojaaGreatDoorB0
import Derived.Test.YtooipdkilgpojaaGreatDoorAbSToSk
import Derived.Test.YtooipdkilgpojaaGreatDoorAbXToY
import Derived.Test.YtooipdkilgpojaaGreatDoorP0ToP7
import Derived.Test.YtooipdkilgpojaaGreatDoorP18ToKBs
import Derived.Test.YtooipdkilgpojaaGreatDoorKT4ToKT5
set_option linter.unusedSimpArgs false
set_option linter.unusedVariables false
set_option linter.unusedSectionVars false
section
set_option maxRecDepth 100000
namespace Go.Proofs.YtooipdkilgpojaaGreatDoor
open Go Go.Ab
open Classical
variable [Sel] [SelPow] [SelMax]
@[simp] theorem zpK:qZ Tryz.prog 7=true:=by kernel_rfl
@[simp] theorem ztn:z8 Tryz.prog (.func 7)=false:=q9 zpK
@[simp] theorem zxb:qZ Tryz.prog 8=true:=by kernel_rfl
@[simp] theorem zxB:z8 Tryz.prog (.func 8)=false:=q9 zxb
@[simp] theorem zoF:qZ Tryz.prog 13=true:=by kernel_rfl
@[simp] theorem zrE:z8 Tryz.prog (.func 13)=false:=q9 zoF
def zL (l:List KnV):AV:=.sl .no (l.map zH)
@[simp] theorem YO (l:List KnV):(zL l).er=zL l:=by simp[zL,AV.er,AV.ers_eq,Function.comp_def,vU]
def txW:List Txt→Nat
 | []=>0
 | x::l=>x.length+1+txW l
def enW:List (Txt × Txt)→Nat
 | []=>0
 | x::l=>x.1.length+x.2.length+1+enW l
def knW:List KnV→Nat
 | []=>0
 | x::l=>x.path.length+x.data.length+1+knW l
def vA (a:xW):Nat:=a.tool.length+(txW a.ins+txW a.asks+txW a.outs)+enW a.env
theorem zbR:∀a b:List Txt,txW (a++b)=txW a+txW b
 | [],b=>by simp[txW]
 | x::a,b=>by simp only[List.cons_append,txW,zbR a b];omega
theorem zcb:∀a b:List (Txt × Txt),enW (a++b)=enW a+enW b
 | [],b=>by simp[enW]
 | x::a,b=>by simp only[List.cons_append,enW,zcb a b];omega
theorem zc9:∀a b:List KnV,knW (a++b)=knW a+knW b
 | [],b=>by simp[knW]
 | x::a,b=>by simp only[List.cons_append,knW,zc9 a b];omega
theorem zjA (l:List Txt) (k:Nat):txW (l.take k)≤txW l:=by
 conv=>rhs;rw[←List.take_append_drop k l,zbR]
 omega
theorem zjF (l:List (Txt × Txt)) (k:Nat):enW (l.take k)≤enW l:=by
 conv=>rhs;rw[←List.take_append_drop k l,zcb]
 omega
theorem zhI (l:List KnV) (k:Nat):knW (l.take k)≤knW l:=by
 conv=>rhs;rw[←List.take_append_drop k l,zc9]
 omega
theorem WB:∀l:List Txt,l.length≤txW l
 | []=>by simp[txW]
 | x::l=>by have:=WB l;simp only[List.length_cons,txW];omega
theorem pU:∀l:List (Txt × Txt),l.length≤enW l
 | []=>by simp[enW]
 | x::l=>by have:=pU l;simp only[List.length_cons,enW];omega
theorem zbK:∀l:List KnV,l.length≤knW l
 | []=>by simp[knW]
 | x::l=>by have:=zbK l;simp only[List.length_cons,knW];omega
theorem zll {l:List Txt} {x:Txt} (h:x∈l):x.length+1≤txW l:=by
 induction l with
 | nil=>cases h
 | cons y r ih =>
  simp only[txW]
  rcases List.mem_cons.1 h with rfl|h
  ·omega
  ·have:=ih h;omega
theorem zmB {l:List (Txt × Txt)} {x:Txt × Txt} (h:x∈l):x.1.length+x.2.length+1≤enW l:=by
 induction l with
 | nil=>cases h
 | cons y r ih =>
  simp only[enW]
  rcases List.mem_cons.1 h with rfl|h
  ·omega
  ·have:=ih h;omega
theorem zfR {l:List KnV} {x:KnV} (h:x∈l):x.path.length+x.data.length+1≤knW l:=by
 induction l with
 | nil=>cases h
 | cons y r ih =>
  simp only[knW]
  rcases List.mem_cons.1 h with rfl|h
  ·omega
  ·have:=ih h;omega
theorem pZ (l:List KnV) (k:Nat) (h:k<l.length):(l.map zH)[k]?=some (zH l[k]):=KB zH l k h
theorem zjw (l:List KnV) (k:Nat) (h:k<l.length):knW (l.take (k+1))=knW (l.take k)+(l[k].path.length+l[k].data.length+1):=by
 rw[List.take_succ_eq_append_getElem h,zc9];simp only[knW];try omega
theorem zhM (l:List Txt) (k:Nat) (h:k<l.length):txW (l.take (k+1))=txW (l.take k)+(l[k].length+1):=by
 rw[List.take_succ_eq_append_getElem h,zbR];simp only[txW];try omega
theorem ziz (l:List (Txt × Txt)) (k:Nat) (h:k<l.length):enW (l.take (k+1))=enW (l.take k)+(l[k].1.length+l[k].2.length+1):=by
 rw[List.take_succ_eq_append_getElem h,zcb];simp only[enW];try omega
theorem P1 (l:List KnV) (hl:knW l≤1000000000):PC Tryz.prog 8 [.av (.slice 57) (zL l)] (.av .bool (.b (decide (5000<knW l)))):=by
 have hlen:=zbK l
 refine zow Tryz.func8 cf0 fun imm0 w0=>?_
 simp (disch:=omega) [zz,zL]
 refine AT.loop' (α:=Nat) (fun k=>St.of [(6,.av (.slice 57) (zL l)),(7,.av (.int .i64) (.i .i64 l.length)),(8,.av (.int .i64) (.i .i64 k)),(3,.av (.int .i64) (.i .i64 (knW (l.take k))))] [] (fun _=>0) [])
  (fun k=>k≤l.length) (fun k=>l.length-k) 0 ?_ ?_ ?_
 ·apply Le.of<;>simp[qU,qG,zL,knW]<;>try omega
 ·omega
 rintro k hk KL hN hE
 refine qM (cf:=cf0) laid mixed _ _ _ (by kernel_rfl) ?_
 by_cases hlt:k<l.length
 ·have hlt':(k:Int)<l.length:=by omega
  have hg:=pZ l k hlt
  have hs:=zjw l k hlt
  have ht:=zhI l (k+1)
  obtain⟨m,hm⟩:∃m,m=knW (l.take k):=⟨_,rfl⟩
  rw[←hm]at hs ⊢
  have hs':(knW (l.take (k+1)):Int)=m+(l[k].path.length+l[k].data.length+1):=by omega
  simp (disch:=omega) [zz,hlt',hg,zH,zL]
  refine hN _ (k+1) ?_ (by omega) (by omega)
  apply Le.of<;>simp[qU,qG,zL,hs']<;>try omega
 ·have hkn:k=l.length:=by omega
  subst hkn
  have hlt':¬(l.length:Int)<l.length:=by omega
  simp (disch:=omega) [zz,hlt',zL]
  refine hE _ _ (by simp) ?_
  by_cases h5:5000<knW l
  ·have h5':(5000:Int)<knW l:=by omega
   simp (disch:=omega) [zz,h5,h5',Tryz.f8]
  ·have h5':¬(5000:Int)<knW l:=by omega
   simp (disch:=omega) [zz,h5,h5',Tryz.f8]
theorem zcM (s:Txt) (l:List Txt) (hl:l.length≤1000000000):PC Tryz.prog 74 [.av .str (.s s),.av (.slice 9) (.sl .no (strs l))] (.av .bool (.b (decide (s∈l)))):=by
 refine zow Tryz.func74 cf0 fun imm0 w0=>?_
 simp (disch:=omega) [zz]
 refine AT.loop' (α:=Nat) (fun k=>St.of [(0,.av .str (.s s)),(7,.av (.slice 9) (.sl .no (strs l))),(8,.av (.int .i64) (.i .i64 l.length)),(9,.av (.int .i64) (.i .i64 k))] [] (fun _=>0) [])
  (fun k=>k≤l.length∧s∉l.take k) (fun k=>l.length-k) 0 ?_ ?_ ?_
 ·apply Le.of<;>simp[qU,qG,qX]<;>try omega
 ·simp
 rintro k ⟨hk,hno⟩ KL hN hE
 refine qM (cf:=cf0) laid mixed _ _ _ (by kernel_rfl) ?_
 by_cases hlt:k<l.length
 ·have hlt':(k:Int)<l.length:=by omega
  have hg:=yH l k hlt
  by_cases hc:l[k]=s
  ·have hin:s∈l:=hc▸List.getElem_mem hlt
   simp (disch:=omega) [zz,hlt',hg,hc,qX]
   refine hE _ _ (by simp) ?_
   simp (disch:=omega) [zz,hin,Tryz.f74]
  ·simp (disch:=omega) [zz,hlt',hg,hc,qX]
   refine hN _ (k+1) ?_ ⟨by omega,fun h=>?_⟩ (by omega)
   ·apply Le.of<;>simp[qU,qG,qX]<;>try omega
   ·rw[List.take_succ_eq_append_getElem hlt]at h
    rcases List.mem_append.1 h with h|h
    ·exact hno h
    ·exact hc (List.mem_singleton.1 h).symm
 ·have hlt':¬(k:Int)<l.length:=by omega
  rw[List.take_of_length_le (by omega)]at hno
  simp (disch:=omega) [zz,hlt',qX]
  refine hE _ _ (by simp) ?_
  simp (disch:=omega) [zz,hno,Tryz.f74]
theorem GX {a b:U1}:jZ a=jZ b↔a=b:=by
 cases a;cases b;simp[jZ]
def WJ (a b:zcy):Bool:=decide (a.kind=b.kind∧a.why=b.why∧a.outs=b.outs∧a.reads=b.reads)
theorem u5 {a b:zcy}:WJ a b=true↔a=b:=by cases a;cases b;simp[WJ]
set_option maxHeartbeats 16000000 in
theorem VG (a b:zcy) (ha1:a.outs.length≤1000000000) (ha2:a.reads.length≤1000000000) (hb1:b.outs.length≤1000000000) (hb2:b.reads.length≤1000000000) :
  PC Tryz.prog 13 [.av (qD Tryz.prog 41) (zI a),.av (qD Tryz.prog 41) (zI b)] (.av .bool (.b (WJ a b))):=by
 refine zow Tryz.func13 cf0 fun imm0 w0=>?_
 by_cases h1:a.kind=b.kind
 rotate_left
 ·simp (disch:=omega) [zz,zI,zU,qF,h1,Tryz.f13,WJ]
 by_cases h2:a.why=b.why
 rotate_left
 ·simp (disch:=omega) [zz,zI,zU,qF,h1,h2,Tryz.f13,WJ]
 by_cases h3:a.outs.length=b.outs.length
 rotate_left
 ·have h3':¬(a.outs.length:Int)=b.outs.length:=by omega
  have h4:¬a.outs=b.outs:=fun e=>h3 (by rw[e])
  simp (disch:=omega) [zz,zI,zU,qF,h1,h2,h3',Tryz.f13,WJ,h4]
 have h3':(a.outs.length:Int)=b.outs.length:=by omega
 by_cases h4:a.reads.length=b.reads.length
 rotate_left
 ·have h4':¬(a.reads.length:Int)=b.reads.length:=by omega
  have h5:¬a.reads=b.reads:=fun e=>h4 (by rw[e])
  simp (disch:=omega) [zz,zI,zU,qF,h1,h2,h3',h4',Tryz.f13,WJ,h5]
 have h4':(a.reads.length:Int)=b.reads.length:=by omega
 simp (disch:=omega) [zz,zI,zU,qF,h1,h2,h3',h4']
 refine AT.loop' (α:=Nat) (fun k=>St.of [(2,.loc 2 []),(3,.loc 3 []),(39,.av (.int .i64) (.i .i64 b.outs.length)),(40,.av (.int .i64) (.i .i64 k))] [(2,(qD Tryz.prog 41,zI a)),(3,(qD Tryz.prog 41,zI b))] (fun _=>0) [])
  (fun k=>k≤b.outs.length∧∀i,i<k→∀(h1:i<a.outs.length) (h2:i<b.outs.length),a.outs[i]=b.outs[i]) (fun k=>b.outs.length-k) 0 ?_ ?_ ?_
 ·apply Le.of<;>simp[qU,qG,zI,zU,qF,h1,h2]<;>try omega
 ·exact⟨by omega,fun i h=>by omega⟩
 rintro k ⟨hk,hall⟩ KL hN hE
 refine qM (cf:=cf0) laid mixed _ _ _ (by kernel_rfl) ?_
 by_cases hlt:k<b.outs.length
 ·have hlt':(k:Int)<b.outs.length:=by omega
  have hga:=KB jZ a.outs k (by omega)
  have hgb:=KB jZ b.outs k hlt
  have hlta:(k:Int)<a.outs.length:=by omega
  by_cases hc:a.outs[k]=b.outs[k]
  ·simp (disch:=omega) [zz,hlt',hlta,hga,hgb,zI,zU,qF,GX,hc]
   (repeat with_reducible refine om ?_)
   refine hN _ (k+1) ?_ ⟨by omega,fun i hi h1 h2=>?_⟩ (by omega)
   ·apply Le.of<;>simp[qU,qG,zI,zU,qF]<;>try omega
   ·rcases Nat.lt_or_ge i k with h|h
    ·exact hall i h h1 h2
    ·have:i=k:=by omega
     subst this;exact hc
  ·have hne:¬a.outs=b.outs:=fun e=>hc (by simp[e])
   simp (disch:=omega) [zz,hlt',hlta,hga,hgb,zI,zU,qF,GX,hc]
   (repeat with_reducible refine om ?_)
   refine hE _ _ (by simp) ?_
   simp (disch:=omega) [zz,Tryz.f13,WJ,hne]
 have hlt':¬(k:Int)<b.outs.length:=by omega
 have hr:a.outs=b.outs:=C0 h3 fun i h1 h2=>hall i (by omega) h1 h2
 simp (disch:=omega) [zz,hlt',zI,zU,qF]
 refine hE _ _ (by simp) ?_
 simp (disch:=omega) [zz,h4']
 refine AT.loop' (α:=Nat) (fun k=>St.of [(2,.loc 2 []),(3,.loc 3 []),(57,.av (.int .i64) (.i .i64 b.reads.length)),(58,.av (.int .i64) (.i .i64 k))] [(2,(qD Tryz.prog 41,zI a)),(3,(qD Tryz.prog 41,zI b))] (fun _=>0) [])
  (fun k=>k≤b.reads.length∧∀i,i<k→∀(h1:i<a.reads.length) (h2:i<b.reads.length),a.reads[i]=b.reads[i]) (fun k=>b.reads.length-k) 0 ?_ ?_ ?_
 ·apply Le.of<;>simp[qU,qG,zI,zU,qF]<;>try omega
 ·exact⟨by omega,fun i h=>by omega⟩
 rintro k2 ⟨hk2,hall2⟩ KL2 hN2 hE2
 refine qM (cf:=cf0) laid mixed _ _ _ (by kernel_rfl) ?_
 by_cases hlt2:k2<b.reads.length
 ·have hlt2':(k2:Int)<b.reads.length:=by omega
  have hga:=KB qI a.reads k2 (by omega)
  have hgb:=KB qI b.reads k2 hlt2
  have hlta:(k2:Int)<a.reads.length:=by omega
  by_cases hc:a.reads[k2]=b.reads[k2]
  ·simp (disch:=omega) [zz,hlt2',hlta,hga,hgb,zI,zU,qF,GV,hc]
   (repeat with_reducible refine om ?_)
   refine hN2 _ (k2+1) ?_ ⟨by omega,fun i hi h1 h2=>?_⟩ (by omega)
   ·apply Le.of<;>simp[qU,qG,zI,zU,qF]<;>try omega
   ·rcases Nat.lt_or_ge i k2 with h|h
    ·exact hall2 i h h1 h2
    ·have:i=k2:=by omega
     subst this;exact hc
  ·have hne:¬a.reads=b.reads:=fun e=>hc (by simp[e])
   simp (disch:=omega) [zz,hlt2',hlta,hga,hgb,zI,zU,qF,GV,hc]
   (repeat with_reducible refine om ?_)
   refine hE2 _ _ (by simp) ?_
   simp (disch:=omega) [zz,Tryz.f13,WJ,hne]
 ·have hlt2':¬(k2:Int)<b.reads.length:=by omega
  have ho:a.reads=b.reads:=C0 h4 fun i h1 h2=>hall2 i (by omega) h1 h2
  simp (disch:=omega) [zz,hlt2',zI,zU,qF]
  refine hE2 _ _ (by simp) ?_
  simp (disch:=omega) [zz,Tryz.f13,WJ,hr,ho,h1,h2]
end Go.Proofs.YtooipdkilgpojaaGreatDoor
end
section
set_option maxRecDepth 100000
namespace Go.Proofs.YtooipdkilgpojaaGreatDoor
open Go Go.Ab
open Classical
variable [Sel]
def xK (en:Array MapEntry) (ids:List Nat):Array Nat:=(ids.map fun i=>(en[i]?.map (·.born)).getD 0).toArray
theorem cV {en:Array MapEntry} {ck:Nat} (hst:yX en.toList ck) {ids:List Nat} (hids:∀i∈ids,i<en.size) {i:Nat} {me:MapEntry} (hi:en[i]?=some me):me.born∈xK en ids↔i∈ids:=by
 unfold xK
 rw[List.mem_toArray,List.mem_map]
 constructor
 ·rintro⟨j,hj,e⟩
  have hjs:=hids j hj
  rw[Array.getElem?_eq_getElem hjs]at e
  simp only[Option.map_some,Option.getD_some]at e
  obtain⟨his,rfl⟩:=Array.getElem?_eq_some_iff.1 hi
  have hnd:=hst.2
  have h1:(en.toList.map (·.born))[j]'(by simpa using hjs)=(en.toList.map (·.born))[i]'(by simpa using his):=by simpa using e
  have:=(List.getElem_inj hnd).1 h1
  rw[←this];exact hj
 ·intro h
  exact⟨i,h,by rw[hi];rfl⟩
theorem zdQ (en:Array MapEntry) (ids:List Nat) {i:Nat} {me:MapEntry} (hi:en[i]?=some me):(xK en ids).push me.born=xK en (ids++[i]):=by
 unfold xK
 apply Array.toList_inj.1
 simp[hi]
def XL (ks:List (List UInt8)) (ids:List Nat):List (List UInt8):=ids.map fun i=>(ks[i]?).getD []
theorem zdP {ks:List (List UInt8)} {ids:List Nat} (hn:ids.Nodup) (hlt:∀i∈ids,i<ks.length) (hall:∀i,i<ks.length→i∈ids):(XL ks ids).Perm ks:=by
 have h1:ids.Perm (List.range ks.length):=by
  rw[List.perm_ext_iff_of_nodup hn List.nodup_range]
  intro i
  rw[List.mem_range]
  exact⟨hlt i,hall i⟩
 have h2:(List.range ks.length).map (fun i=>(ks[i]?).getD [])=ks:=by
  refine List.ext_getElem (by simp) fun t h1 h2=>?_
  simp only[List.getElem_map,List.getElem_range]
  rw[List.getElem?_eq_getElem h2];rfl
 have:=h1.map (fun i=>(ks[i]?).getD ([]:Dig))
 rw[h2]at this
 exact this
theorem gK:∀(n:Nat) (l:List Nat),l.Nodup→(∀i∈l,i<n)→l.length≤n
 | 0,l,_,h=>by
  cases l with
  | nil=>simp
  | cons x r=>exact absurd (h x (by simp)) (Nat.not_lt_zero _)
 | n+1,l,hn,h=>by
  by_cases hm:n∈l
  ·have:=gK n (l.erase n) (hn.erase n) (fun i hi=>by
    have h1:=(List.Nodup.mem_erase_iff hn).1 hi
    have:=h i h1.2
    have:=h1.1
    omega)
   rw[List.length_erase_of_mem hm]at this
   omega
  ·have:=gK n l hn (fun i hi=>by
    have h1:=h i hi
    have:i≠n:=fun e=>hm (e▸hi)
    omega)
   omega
end Go.Proofs.YtooipdkilgpojaaGreatDoor
end
section
set_option maxRecDepth 100000
namespace Go.Proofs.YtooipdkilgpojaaGreatDoor
open Go Go.Ab
open Classical
variable [Sel] [SelPow] [SelMax]
@[simp] theorem zEq:qZ Tryz.prog 50=true:=by kernel_rfl
@[simp] theorem zEL:z8 Tryz.prog (.func 50)=false:=q9 zEq
@[simp] theorem znr:qZ Tryz.prog 95=true:=by kernel_rfl
@[simp] theorem zs6:z8 Tryz.prog (.func 95)=false:=q9 znr
abbrev WrT:TyD:=.map 9 9
noncomputable def wbO (M:Nat):HObj:=.var WrT (.map (some M))
abbrev zrZ:Cfg:=⟨fun n=>n==1,fun _=>false⟩
theorem zk4 (M:Nat):q7 Tryz.prog 50 [.av WrT (.map (some M))] [] fun r H'=>∃c,r=.av .func (.fn 95 [.ptr c WrT []])∧H'=[(c,wbO M)]:=by
 refine zov Tryz.func50 zrZ fun imm0 w0=>?_
 simp (disch:=omega) [zz]
 intro c
 simp (disch:=omega) [zz,Tryz.f50,wbO,AV.ers]
set_option maxHeartbeats 4000000 in
theorem zeT {G:List Txt→q8→Prop} (y c M:Nat) (hcM:c≠M) (l:List (Txt × Txt)) (en:Array MapEntry) (ck:Nat) (i0:Nat→Nat) (w1:World) (hop:gM Tryz.prog 9 9 (wrE l) en ck i0 w1)
  (hGe:∀done H,G done H→H.er=H)
  (hY:∀done (k:Txt) H,k∈l.map (·.1)→done.length<l.length→G done H→YC Tryz.prog y [.av .str (.s k)] H fun r H'=>r=.av .bool (.b true)∧G (done++[k]) H') :
  ∀H,G [] H→q7 Tryz.prog 95 [.av .func (.yl y),.av .ptr (.ptr c WrT [])] ((c,wbO M)::(M,.raw (.map en ck) i0 w1)::H)
   fun r H'=>r=.tup []∧∃done H1 it o,done.Perm (l.map (·.1))∧G done H1∧H'=(it,o)::(c,wbO M)::(M,.raw (.map en ck) i0 w1)::H1:=by
 intro H hG
 have hMc:¬M=c:=fun e=>hcM e.symm
 refine zov Tryz.func95 cf0 fun imm0 w0=>?_
 simp (disch:=omega) [zz,wbO,hcM,hMc]
 intro it hit hiM _
 have hit':¬c=it:=fun e=>hit e.symm
 have hiM':¬M=it:=fun e=>hiM e.symm
 have hsz:en.size=l.length:=by have:=p5 hop.ents;simpa[wrE]using this.symm
 refine AT.loop' (α:=List Nat × q8) (fun p=>St.of [(0,.av .func (.yl y)),(1,.av .ptr (.ptr c WrT [])),(5,.av .ptr (.ptr it .other []))] [] (fun _=>0) ((it,.raw (.mapIter (some M) ck (xK en p.1) ck) (fun _=>0) default)::(c,wbO M)::(M,.raw (.map en ck) i0 w1)::p.2))
  (fun p=>p.1.Nodup∧(∀i∈p.1,i<en.size)∧G (XL (l.map (·.1)) p.1) p.2) (fun p=>en.size-p.1.length) ([],H) ?_ ?_ ?_
 ·apply Le.of<;>simp[qU,qG,wbO,xK]<;>try omega
 ·exact⟨List.nodup_nil,by simp,hG⟩
 rintro⟨ids,H1⟩ ⟨hnd,hlt,hG1⟩ KL hN hE
 simp only at hnd hlt hG1
 refine qM (cf:=cf0) laid mixed _ _ _ (by kernel_rfl) ?_
 simp (disch:=omega) [zz,wbO,hit,hiM,hit',hiM',hcM,hMc,zeg]
 refine⟨9,9,wrE l,hop,fun hall=>?_,fun i me u v hi hns hes=>?_⟩
 ·refine hE _ _ (by simp) ?_
  have hperm:(XL (l.map (·.1)) ids).Perm (l.map (·.1)):=by
   refine zdP hnd (fun i hi=>by have:=hlt i hi;simpa[hsz]using this) fun i hi=>?_
   have hi':i<en.size:=by simpa[hsz]using hi
   exact(cV hop.st hlt (Array.getElem?_eq_getElem hi')).1 (hall i _ (Array.getElem?_eq_getElem hi'))
  have hH:=hGe _ _ hG1
  simp (disch:=omega) [zz,Tryz.f95,hH,HObj.er]
  exact⟨_,hperm,hG1⟩
 ·have hil:i<en.size:=(Array.getElem?_eq_some_iff.1 hi).1
  have hni:i∉ids:=fun h=>hns ((cV hop.st hlt hi).2 h)
  have hic:i<l.length:=by omega
  have hu:u=AV.s l[i].1:=by
   simp only[wrE]at hes
   rw[List.getElem?_map,List.getElem?_eq_getElem hic]at hes
   have:=Option.some.inj hes
   exact(congrArg Prod.fst this).symm
  subst hu
  rw[zdQ en ids hi]
  refine⟨9,9,wrE l,hop,i,me,hi,AV.s l[i].1,v,hes,rfl,?_⟩
  simp (disch:=omega) [zz]
  have hkm:l[i].1∈l.map (·.1):=List.mem_map.2 ⟨l[i],List.getElem_mem hic,rfl⟩
  have hGn:XL (l.map (·.1)) (ids++[i])=XL (l.map (·.1)) ids++[l[i].1]:=by
   simp[XL,List.getElem?_eq_getElem hic]
  have hnd2:(ids++[i]).Nodup:=List.nodup_append.2 ⟨hnd,by simp,fun a ha b hb e=>by simp only[List.mem_singleton]at hb;subst hb;exact hni (e▸ha)⟩
  have hlt2:∀k∈ids++[i],k<en.size:=fun k hk=>by
   rcases List.mem_append.1 hk with h|h
   ·exact hlt k h
   ·simp only[List.mem_singleton]at h;omega
  have hle2:=gK en.size _ hnd2 hlt2
  refine JY (R:=fun r H'=>r=.av .bool (.b true)∧G (XL (l.map (·.1)) (ids++[i])) H') H1 [(it,.raw (.mapIter (some M) ck (xK en (ids++[i])) ck) (fun _=>0) default),(c,wbO M),(M,.raw (.map en ck) i0 w1)] (List.perm_append_comm (l₁:=[_,_,_])) (by simp[qQ]) ?_ ?_
  ·rw[hGe _ _ hG1,hGn]
   have:=hY _ _ _ hkm (by simp only[XL,List.length_map];simp at hle2;omega) hG1
   simpa[TV.er]using this
  rintro r H2 ⟨rfl,hG2⟩ _
  refine⟨(it,.raw (.mapIter (some M) ck (xK en (ids++[i])) ck) (fun _=>0) default)::(c,wbO M)::(M,.raw (.map en ck) i0 w1)::H2,HSub.of_perm (List.perm_append_comm (l₂:=[_,_,_])),?_⟩
  simp (disch:=omega) [zz]
  refine hN _ (ids++[i],H2) ?_ ⟨hnd2,hlt2,hG2⟩ (by simp at hle2 ⊢;omega)
  apply Le.of<;>simp[qU,qG,wbO]<;>try omega
theorem zgY {G:List Txt→q8→Prop} (y c M:Nat) (hcM:c≠M) (l:List (Txt × Txt)) (hGe:∀done H,G done H→H.er=H)
  (hY:∀done (k:Txt) H,k∈l.map (·.1)→done.length<l.length→G done H→YC Tryz.prog y [.av .str (.s k)] H fun r H'=>r=.av .bool (.b true)∧G (done++[k]) H') (H:q8) (hG:G [] H) :
  q7 Tryz.prog 95 [.av .func (.yl y),.av .ptr (.ptr c WrT [])] ((M,wrO l)::(c,wbO M)::H)
   fun r H'=>r=.tup []∧∃done H1,done.Perm (l.map (·.1))∧G done H1∧H'=(M,wrO l)::(c,wbO M)::H1:=by
 refine q7.openMap fun en ck i0 w1 hop=>?_
 refine q7.conv (R:=fun r H'=>r=.tup []∧∃done H1,done.Perm (l.map (·.1))∧G done H1∧H'=(M,.raw (.map en ck) i0 w1)::(c,wbO M)::H1) ?_ ?_
 ·refine q7.sub (((zeT y c M hcM l en ck i0 w1 hop hGe hY H hG)).perm (List.Perm.swap _ _ _)) ?_
  rintro r H' ⟨rfl,done,H1,it,o,hp,hg,rfl⟩ _
  exact⟨_,⟨_,List.Perm.cons _ (List.Perm.swap _ _ _),(List.Sublist.refl _).cons _⟩,rfl,done,H1,hp,hg,rfl⟩
 ·rintro r H' ⟨rfl,done,H1,hp,hg,rfl⟩
  exact⟨(M,wrO l)::(c,wbO M)::H1,fun b hb=>hb,fun imm w h=>h.shutMap hop,rfl,done,H1,hp,hg,rfl⟩
end Go.Proofs.YtooipdkilgpojaaGreatDoor
end
section
set_option maxRecDepth 100000
namespace Go.Proofs.YtooipdkilgpojaaGreatDoor
open Go Go.Ab
open Classical
variable [Sel]
theorem q7.argNil {P:Program} {f:FuncId} {e:TypeId} {args:List TV} {H:q8} {R:TV→q8→Prop} (h:q7 P f (.av (.slice e) .nsl::args) H R):q7 P f (.cst (.slice none 0 0)::args) H R:=by
 intro imm w vs h1 h2
 refine h imm w vs h1 ?_
 obtain⟨vs⟩:=vs
 match vs,h2 with
 | v::r,⟨e1,e2⟩ =>
  have e1':v=.slice none 0 0:=e1
  subst e1'
  exact⟨⟨rfl,by simp[VC,Value.cells]⟩,e2⟩
theorem q7.nilR {P:Program} {f:FuncId} {args:List TV} {H:q8} {R R':TV→q8→Prop} (h:q7 P f args H R) (hr:∀r H',R r H'→R' r H'∨∃e,r=.av (.slice e) .nsl∧R' (.av (.slice e) (.sl .no [])) H'):q7 P f args H R' :=
 fun imm w vs h1 h2=>(h imm w vs h1 h2).mono fun e w' ⟨v,r,imm',H',a,b,c,d,st⟩=>by
  rcases hr _ _ b with h3|⟨e,rfl,h3⟩
  ·exact⟨v,r,imm',H',a,h3,c,d,st⟩
  ·obtain⟨f,hv⟩:=c
   simp only[VC]at hv
   obtain⟨_,_,hv⟩:=hv
   exact⟨v,_,imm',H',a,h3,⟨f,by simp only[VC];exact⟨e,none,0,rfl,hv,by simp,by simp[U9]⟩⟩,d,st⟩
end Go.Proofs.YtooipdkilgpojaaGreatDoor
end
section
set_option maxRecDepth 100000
namespace Go.Proofs.YtooipdkilgpojaaGreatDoor
open Go Go.Ab
open Classical
variable [Sel] [SelPow] [SelMax]
theorem q7.argNsl {P:Program} {f:FuncId} {e:TypeId} {args:List TV} {H:q8} {R:TV→q8→Prop} (h:q7 P f (.av (.slice e) (.sl .no [])::args) H R):q7 P f (.av (.slice e) .nsl::args) H R:=by
 intro imm w vs h1 h2
 refine h imm w vs h1 ?_
 obtain⟨vs⟩:=vs
 match vs,h2 with
 | v::r,⟨⟨f1,hv⟩,e2⟩ =>
  simp only[VC]at hv
  obtain⟨_,_,hv⟩:=hv
  exact⟨⟨f1,by simp only[VC];exact⟨e,none,0,rfl,hv,by simp,by simp[U9]⟩⟩,e2⟩
theorem zgp (l:List Txt):JK (strs l):=by
 unfold JK;simp[AV.erks_eq,strs,Function.comp_def,AV.er,AV.erk]
theorem zmZ (n:Nat):JK (List.replicate n (AV.s [])):=JK.rep rfl _
@[simp] theorem zmI:qZ Tryz.prog 138=true:=by kernel_rfl
@[simp] theorem zqr:z8 Tryz.prog (.func 138)=false:=q9 zmI
@[simp] theorem zEp:qZ Tryz.prog 93=true:=by kernel_rfl
@[simp] theorem zEN:z8 Tryz.prog (.func 93)=false:=q9 zEp
abbrev TxS:TyD:=.slice 9
def wG (y b2:Nat) (done:List Txt) (H:q8):Prop :=
 (done=[]∧H=[(b2,.var TxS .nsl)])∨∃b cap j,JK j∧b≠b2∧b≠y∧done.length+j.length=cap∧H=[(b2,.var TxS (.msl b 9 0 done.length cap)),(b,wY cap done j)]
def wR (ks:List Txt) (rest:q8) (r:TV) (H':q8):Prop :=
 ∃done,done.Perm ks∧((done=[]∧r=.av TxS .nsl∧H'=rest)∨∃b cap j,JK j∧done.length+j.length=cap∧r=.av TxS (.msl b 9 0 done.length cap)∧H'=(b,wY cap done j)::rest)
theorem zpj {y b2:Nat} {done:List Txt} {H:q8} (h:wG y b2 done H):H.er=H:=by
 rcases h with⟨_,rfl⟩|⟨b,cap,j,hj,_,_,_,rfl⟩
 ·rfl
 ·rw[q8.er_cons,q8.er_cons,KE hj];rfl
def zzE (g c:Nat) (T:TyD) (HS:q8) (ks:List Txt):Prop:=qZ Tryz.prog g=true∧HS.er=HS∧∀(G:List Txt→q8→Prop) (y:Nat),(∀done H,G done H→H.er=H)→
  (∀done (k:Txt) H,done.length<ks.length→G done H→YC Tryz.prog y [.av .str (.s k)] H fun r H'=>r=.av .bool (.b true)∧G (done++[k]) H')→
  ∀H,G [] H→q7 Tryz.prog g [.av .func (.yl y),.av .ptr (.ptr c T [])] (HS++H) fun r H'=>r=.tup []∧∃done H1,done.Perm ks∧G done H1∧H'=HS++H1
theorem zz8 (c M:Nat) (hcM:c≠M) (l:List (Txt × Txt)):zzE 95 c WrT [(M,wrO l),(c,wbO M)] (l.map (·.1)) :=
 ⟨by simp,by have:=QZ l;simp only[q8.er_cons,q8.er_nil,this];rfl,fun G y hGe hY H hG=>zgY y c M hcM l hGe (fun done k H _ h2 h3=>hY done k H (by simpa using h2) h3) H hG⟩
abbrev znx:Cfg:=⟨fun n=>n==2,fun _=>false⟩
set_option maxHeartbeats 8000000 in
theorem CB {g c:Nat} {T:TyD} {HS:q8} {ks:List Txt} (hs:zzE g c T HS ks) (hlen:ks.length≤1000000) :
  q7 Tryz.prog 138 [.av TxS .nsl,.av .func (.fn g [.ptr c T []])] HS (wR ks HS):=by
 obtain⟨hfo,hse,hsf⟩:=hs
 refine q7.sub (R:=fun r H'=>∃H2,Ab.HSub H2 H'∧wR ks HS r H2) ?_ fun r H' ⟨H2,h1,h2⟩ _=>⟨H2,h1,h2⟩
 refine zov Tryz.func138 znx fun imm0 w0=>?_
 simp (disch:=omega) [zz]
 intro b2 hb2
 refine AT.range (gf:=g) rfl rfl rfl (by simp[hfo]) ?_
 intro y D r i0 w1 hy hrec hready hpend hpar has hbo
 simp at hy
 obtain⟨hy2,hyS⟩:=hy
 have hy2':¬b2=y:=fun e=>hy2 e.symm
 refine⟨HS++[(y,.lrec r i0 w1),(b2,.var TxS .nsl)],[],fun t H'=>t=.tup []∧∃done H1,done.Perm ks∧(∃H2,H1=(y,.lrec r i0 w1)::H2∧wG y b2 done H2)∧H'=HS++H1,?_,?_,?_⟩
 ·rw[List.append_nil]
  exact List.perm_append_comm (l₁:=[_,_])
 ·rw[q8.er_app,hse]
  refine hsf (fun done H=>∃H2,H=(y,.lrec r i0 w1)::H2∧wG y b2 done H2) y ?_ ?_ _ ⟨_,rfl,.inl ⟨rfl,rfl⟩⟩
  ·rintro done H ⟨H2,rfl,hg⟩
   rw[q8.er_cons,zpj hg];rfl
  ·rintro done k H hdl ⟨H2,rfl,hg⟩
   have hrd:=YC.of_round (l:=y) hrec hready (args:=[.av .str (.s k)]) (H:=H2) (R:=fun rr H'=>rr=.av .bool (.b true)∧∃H3,Ab.HSub ((y,.lrec r i0 w1)::H3) H'∧wG y b2 (done++[k]) H3) (by rw[hpar];rfl) (by rw[hpar];simp) (fun imm w=>?_)
   ·exact zeS hrd fun rr H' ⟨e1,H3,e2,e3⟩ _=>⟨_,e2,e1,H3,rfl,e3⟩
   rw[has,hbo,hpar]
   refine qM (cf:=znx) laid mixed _ _ _ (by kernel_rfl) ?_
   simp (disch:=omega) [zz,QW,yL,vS]
   refine qM (cf:=znx) laid mixed _ _ _ (by kernel_rfl) ?_
   have hrl:∀(p:Array Nat) (a b:Code),p=r.params→a=r.assign→b=r.body→({ state:=.ready,pending:=none,fn:=r.fn,tmps:=r.tmps,params:=p,assign:=a,body:=b,defers:=r.defers }:Loop)=r:=by
    rintro _ _ _ rfl rfl rfl;exact u7 hready hpend
   have her:∀r',(HObj.lrec r' i0 w1).er=HObj.lrec r' i0 w1:=fun _=>rfl
   rcases hg with⟨rfl,rfl⟩|⟨b,cap,j,hj,hbb,hby,hcap,rfl⟩
   ·simp (disch:=omega) [zz,hy2,hy2']
    intro b' cap' hb1 hb2 hc
    have hb1':¬y=b':=fun e=>hb1 e.symm
    have hb2':¬b2=b':=fun e=>hb2 e.symm
    simp (disch:=omega) [zz,hy2,hy2',hb1,hb2,hb1',hb2',WR,uV]
    rw[her,hrl _ _ _ hpar.symm has.symm hbo.symm]
    refine⟨[(b2,.var TxS (.msl b' 9 0 1 cap')),(b',wY cap' [k] (List.replicate (cap'-1) (AV.s [])))],HSub.of_perm ?_,.inr ⟨b',cap',_,JK.rep rfl _,hb2,hb1,by simp;omega,rfl⟩⟩
    have:=zmZ (cap'-1)
    unfold JK at this
    rw[this]
    exact List.perm_append_comm (l₁:=[_]) (l₂:=[_,_])
   ·have hbb':¬b2=b:=fun e=>hbb e.symm
    have hby':¬y=b:=fun e=>hby e.symm
    simp (disch:=omega) [zz,hy2,hy2',hbb,hbb',hby,hby',wY]
    refine⟨by omega,⟨by omega,by omega⟩,fun hc=>?_,fun hc b' cap' hb1 hb2 hb3 hc'=>?_⟩
    ·simp (disch:=omega) [zz,hy2,hy2',hbb,hbb',hby,hby',WR,uV]
     rw[her,hrl _ _ _ hpar.symm has.symm hbo.symm]
     have h2:(strs done++j).take done.length++AV.s k::(strs done++j).drop (done.length+1)=strs (done++[k])++j.drop 1:=by
      have e1:(strs done++j).take done.length=strs done:=by rw[List.take_append_of_le_length (by simp)];exact List.take_of_length_le (by simp)
      have e2:(strs done++j).drop (done.length+1)=j.drop 1:=by
       rw[List.drop_append,List.drop_of_length_le (by simp)];simp
      rw[e1,e2];simp only[Z6,List.append_assoc];rfl
     have h3:=(zgp (done++[k])).app (hj.drop 1)
     unfold JK at h3
     rw[h2,h3]
     refine⟨[(b2,.var TxS (.msl b 9 0 (done.length+1) cap)),(b,wY cap (done++[k]) (j.drop 1))],HSub.refl _,.inr ⟨b,cap,_,hj.drop 1,hbb,hby,by simp;omega,by simp⟩⟩
    ·have hb1':¬y=b':=fun e=>hb1 e.symm
     have hb2':¬b2=b':=fun e=>hb2 e.symm
     have hb3':¬b=b':=fun e=>hb3 e.symm
     simp (disch:=omega) [zz,hy2,hy2',hbb,hbb',hby,hby',hb1,hb2,hb3,hb1',hb2',hb3',WR,uV]
     rw[her,hrl _ _ _ hpar.symm has.symm hbo.symm]
     have h2:(strs done++j).take done.length++AV.s k::List.replicate (cap'-(done.length+1)) (AV.s [])=strs (done++[k])++List.replicate (cap'-(done.length+1)) (AV.s []):=by
      have e1:(strs done++j).take done.length=strs done:=by rw[List.take_append_of_le_length (by simp)];exact List.take_of_length_le (by simp)
      rw[e1];simp only[Z6,List.append_assoc];rfl
     have h3:=(zgp (done++[k])).app (zmZ (cap'-(done.length+1)))
     unfold JK at h3
     rw[h2,h3]
     refine⟨[(b2,.var TxS (.msl b' 9 0 (done.length+1) cap')),(b',wY cap' (done++[k]) (List.replicate (cap'-(done.length+1)) (AV.s [])))],⟨_,List.perm_append_comm (l₁:=[_]) (l₂:=[_,_,_]),?_⟩,.inr ⟨b',cap',List.replicate (cap'-(done.length+1)) (AV.s []),JK.rep rfl _,hb2,hb1,by simp;omega,by simp⟩⟩
     exact((((List.nil_sublist _).cons_cons _).cons _).cons_cons _).cons_cons _
 ·rintro t H' ⟨rfl,done,H1,hp,⟨H2,rfl,hg⟩,rfl⟩ hnd
  refine⟨r,H2++HS,HSub.of_perm (by rw[List.append_nil];exact List.perm_append_comm (l₂:=_::_)),by rw[hready];simp,?_⟩
  rw[hpend]
  rcases hg with⟨rfl,rfl⟩|⟨b,cap,j,hj,hbb,hby,hcap,rfl⟩
  ·simp (disch:=omega) [zz,PR,hse,Tryz.f138]
   exact⟨HS,HSub.of_sub ((List.Sublist.refl _).cons _),[],hp,.inl ⟨rfl,rfl,rfl⟩⟩
  ·have hkr:=KE (cap:=cap) (ts:=done) hj
   simp (disch:=omega) [zz,PR,hse,hkr,Tryz.f138]
   exact⟨(b,wY cap done j)::HS,HSub.of_sub ((List.Sublist.refl _).cons _),done,hp,.inr ⟨b,cap,j,hj,hcap,rfl,rfl⟩⟩
theorem ze2 {g c:Nat} {T:TyD} {HS:q8} {ks:List Txt} (hs:zzE g c T HS ks) (hlen:ks.length≤1000000) :
  q7 Tryz.prog 93 [.av .func (.fn g [.ptr c T []])] HS (wR ks HS):=by
 have hse:=hs.2.1
 refine zov Tryz.func93 cf0 fun imm0 w0=>?_
 simp (disch:=omega) [zz]
 refine jP (R:=wR ks HS) rfl (by simp[qQ]) (by simp) ?_ ?_
 ·have:=q7.argNil (CB hs hlen)
  simpa[TV.er,AV.er,AV.ers,hse]using this
 rintro r' H' ⟨done,hp,⟨rfl,rfl,rfl⟩|⟨b,cap,j,hj,hcap,rfl,rfl⟩⟩
 ·simp (disch:=omega) [zz,hse,Tryz.f93]
  exact⟨[],hp,.inl ⟨rfl,rfl,rfl⟩⟩
 ·have hkr:=KE (cap:=cap) (ts:=done) hj
  simp (disch:=omega) [zz,hse,hkr,Tryz.f93]
  exact⟨done,hp,.inr ⟨b,cap,j,hj,hcap,rfl,rfl⟩⟩
@[simp] theorem zyq:qZ Tryz.prog 49=true:=by kernel_rfl
@[simp] theorem zyC:z8 Tryz.prog (.func 49)=false:=q9 zyq
def wS (ks:List Txt) (rest:q8) (r:TV) (H':q8):Prop:=∃v H1,r=.av TxS v∧KF (kK ks) v H1∧H'=H1++rest
theorem Y2 {a b:List Txt} (h:a.Perm b):kK a=kK b:=by
 unfold kK
 have h1:=List.pairwise_mergeSort (le:=fun(a b:Txt)=>decide (a≤b)) (fun a b c h1 h2=>by simp only[decide_eq_true_eq]at *;exact List.le_trans h1 h2) (fun a b=>by simp only[Bool.or_eq_true,decide_eq_true_eq];exact List.le_total a b) a
 have h2:=List.pairwise_mergeSort (le:=fun(a b:Txt)=>decide (a≤b)) (fun a b c h1 h2=>by simp only[decide_eq_true_eq]at *;exact List.le_trans h1 h2) (fun a b=>by simp only[Bool.or_eq_true,decide_eq_true_eq];exact List.le_total a b) b
 refine List.Perm.eq_of_pairwise (fun x y _ _ h3 h4=>?_) h1 h2 ((List.mergeSort_perm _ _).trans (h.trans (List.mergeSort_perm _ _).symm))
 simp only[decide_eq_true_eq]at h3 h4
 exact List.le_antisymm h3 h4
theorem ze9 {g c:Nat} {T:TyD} {HS:q8} {ks:List Txt} (hs:zzE g c T HS ks) (hlen:ks.length≤1000000) :
  q7 Tryz.prog 49 [.av .func (.fn g [.ptr c T []])] HS (wS ks HS):=by
 have hse:=hs.2.1
 refine q7.nilR (R:=fun r H'=>(ks=[]∧r=.av TxS .nsl∧H'=HS)∨wS ks HS r H') ?_ ?_
 rotate_left
 ·rintro r H' (⟨e,rfl,rfl⟩|h)
  ·exact .inr ⟨_,rfl,_,[],rfl,.inl ⟨by rw[e];simp[kK],rfl,rfl⟩,rfl⟩
  ·exact .inl h
 refine zov Tryz.func49 cf0 fun imm0 w0=>?_
 simp (disch:=omega) [zz]
 refine jP (R:=wR ks HS) rfl (by simp[qQ]) (by simp) ?_ ?_
 ·have:=ze2 hs hlen
  simpa[TV.er,AV.er,AV.ers,hse]using this
 rintro r' H0 ⟨done,hp,⟨rfl,rfl,rfl⟩|⟨b,cap,j,hj,hcap,rfl,rfl⟩⟩
 ·simp (disch:=omega) [zz]
  refine qE (R:=fun r H'=>r=.tup []∧H'=[]) [] H0 (List.Perm.refl _) rfl (by simp[qQ]) (by simp) ?_ ?_
  ·have:=q7.argNsl dQ
   simpa[TV.er,AV.er,AV.ers,q8.er_nil]using this
  rintro r' H' ⟨rfl,rfl⟩ _
  refine⟨_,HSub.refl _,?_⟩
  simp (disch:=omega) [zz,hse,Tryz.f49]
  have hnl:ks=[]:=List.nil_perm.1 hp
  subst hnl
  first|exact .inl rfl|exact .inl ⟨rfl,rfl⟩
 ·have hkr:=fun ts=>KE (cap:=cap) (ts:=ts) hj
  have hdl:done.length≤1000000:=by rw[hp.length_eq];exact hlen
  simp (disch:=omega) [zz]
  refine qE (R:=fun r H'=>r=.tup []∧H'=[(b,wY cap (kK done) j)]) [(b,wY cap done j)] HS (List.Perm.refl _) rfl (by simp[qQ]) (by simp) ?_ ?_
  ·have:=zaG done b cap j hcap (by omega)
   have e:q8.er [(b,wY cap done j)]=[(b,wY cap done j)]:=by rw[q8.er_cons,hkr];rfl
   rw[e]
   simpa[TV.er,AV.er,AV.ers,wY]using this
  rintro r' H' ⟨rfl,rfl⟩ _
  refine⟨_,HSub.refl _,?_⟩
  have hks:=hkr (kK done)
  simp (disch:=omega) [zz,hse,hks,Tryz.f49]
  refine⟨_,_,rfl,.inr ⟨b,cap,j,hj,?_,?_,rfl⟩,?_⟩
  ·rw[←Y2 hp,ZO]
  ·rw[←Y2 hp,ZO];exact hcap
  ·rw[Y2 hp];rfl
end Go.Proofs.YtooipdkilgpojaaGreatDoor
end
