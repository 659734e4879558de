/- Actions; how much an action is, and what is known. No condition beyond each theorem's own. -/
import Derived.Test.YthgocigdldgpgaaGreatDoorBX2ToBL0
import Derived.Test.YthgocigdldgpgaaGreatDoorBX4ToBX6
import Derived.Test.YthgocigdldgpgaaGreatDoorK20ToRW0
import Derived.Test.YthgocigdldgpgaaGreatDoorB0
import Derived.Test.YthgocigdldgpgaaGreatDoorAbSToSi
import Derived.Test.YthgocigdldgpgaaGreatDoorAbXToY
set_option linter.unusedSimpArgs false
set_option linter.unusedVariables false
set_option linter.unusedSectionVars false
section
set_option maxRecDepth 100000
namespace Go.Proofs.YthgocigdldgpgaaGreatDoor
open Go Go.Ab
open Classical
variable [Sel] [SelPow] [SelMax]
@[simp] theorem zoA:qZ Tryz.prog 14=true:=by kernel_rfl
@[simp] theorem zrs:z8 Tryz.prog (.func 14)=false:=q9 zoA
@[simp] theorem zoB:qZ Tryz.prog 15=true:=by kernel_rfl
@[simp] theorem zrV:z8 Tryz.prog (.func 15)=false:=q9 zoB
@[simp] theorem zop:qZ Tryz.prog 20=true:=by kernel_rfl
@[simp] theorem zs2:z8 Tryz.prog (.func 20)=false:=q9 zop
def zL (l:List KnV):AV:=.sl .no (l.map zH)
@[simp] theorem YO (l:List KnV):(zL l).er=zL l:=by simp[zL,AV.er,AV.ers_eq,Function.comp_def,vU]
def txW:List Txt→Nat
 | []=>0
 | x::l=>x.length+1+txW l
def enW:List (Txt × Txt)→Nat
 | []=>0
 | x::l=>x.1.length+x.2.length+1+enW l
def knW:List KnV→Nat
 | []=>0
 | x::l=>x.path.length+x.data.length+1+knW l
def vA (a:xW):Nat:=a.tool.length+(txW a.ins+txW a.asks+txW a.outs)+enW a.env
theorem zbR:∀a b:List Txt,txW (a++b)=txW a+txW b
 | [],b=>by simp[txW]
 | x::a,b=>by simp only[List.cons_append,txW,zbR a b];omega
theorem zcb:∀a b:List (Txt × Txt),enW (a++b)=enW a+enW b
 | [],b=>by simp[enW]
 | x::a,b=>by simp only[List.cons_append,enW,zcb a b];omega
theorem zc9:∀a b:List KnV,knW (a++b)=knW a+knW b
 | [],b=>by simp[knW]
 | x::a,b=>by simp only[List.cons_append,knW,zc9 a b];omega
theorem zjA (l:List Txt) (k:Nat):txW (l.take k)≤txW l:=by
 conv=>rhs;rw[←List.take_append_drop k l,zbR]
 omega
theorem zjF (l:List (Txt × Txt)) (k:Nat):enW (l.take k)≤enW l:=by
 conv=>rhs;rw[←List.take_append_drop k l,zcb]
 omega
theorem zhI (l:List KnV) (k:Nat):knW (l.take k)≤knW l:=by
 conv=>rhs;rw[←List.take_append_drop k l,zc9]
 omega
theorem WB:∀l:List Txt,l.length≤txW l
 | []=>by simp[txW]
 | x::l=>by have:=WB l;simp only[List.length_cons,txW];omega
theorem pU:∀l:List (Txt × Txt),l.length≤enW l
 | []=>by simp[enW]
 | x::l=>by have:=pU l;simp only[List.length_cons,enW];omega
theorem zbK:∀l:List KnV,l.length≤knW l
 | []=>by simp[knW]
 | x::l=>by have:=zbK l;simp only[List.length_cons,knW];omega
theorem zll {l:List Txt} {x:Txt} (h:x∈l):x.length+1≤txW l:=by
 induction l with
 | nil=>cases h
 | cons y r ih =>
  simp only[txW]
  rcases List.mem_cons.1 h with rfl|h
  ·omega
  ·have:=ih h;omega
theorem zmB {l:List (Txt × Txt)} {x:Txt × Txt} (h:x∈l):x.1.length+x.2.length+1≤enW l:=by
 induction l with
 | nil=>cases h
 | cons y r ih =>
  simp only[enW]
  rcases List.mem_cons.1 h with rfl|h
  ·omega
  ·have:=ih h;omega
theorem zfR {l:List KnV} {x:KnV} (h:x∈l):x.path.length+x.data.length+1≤knW l:=by
 induction l with
 | nil=>cases h
 | cons y r ih =>
  simp only[knW]
  rcases List.mem_cons.1 h with rfl|h
  ·omega
  ·have:=ih h;omega
theorem pZ (l:List KnV) (k:Nat) (h:k<l.length):(l.map zH)[k]?=some (zH l[k]):=KB zH l k h
theorem zjw (l:List KnV) (k:Nat) (h:k<l.length):knW (l.take (k+1))=knW (l.take k)+(l[k].path.length+l[k].data.length+1):=by
 rw[List.take_succ_eq_append_getElem h,zc9];simp only[knW];try omega
theorem zhM (l:List Txt) (k:Nat) (h:k<l.length):txW (l.take (k+1))=txW (l.take k)+(l[k].length+1):=by
 rw[List.take_succ_eq_append_getElem h,zbR];simp only[txW];try omega
theorem ziz (l:List (Txt × Txt)) (k:Nat) (h:k<l.length):enW (l.take (k+1))=enW (l.take k)+(l[k].1.length+l[k].2.length+1):=by
 rw[List.take_succ_eq_append_getElem h,zcb];simp only[enW];try omega
theorem P1 (l:List KnV) (hl:knW l≤1000000000):PC Tryz.prog 15 [.av (.slice 55) (zL l)] (.av .bool (.b (decide (5000<knW l)))):=by
 have hlen:=zbK l
 refine PC.of <| q7.of_vc laid mixed Tryz.func15 rfl cf0 (by kernel_rfl) (by simp[Tryz.ntmps15]) fun imm0 w0=>?_
 (simp (maxSteps:=2000000) (disch:=first|omega|assumption) [zz,-List.reduceReplicate,zL])
 refine AT.loop' (α:=Nat) (fun k=>St.of [(6,.av (.slice 55) (zL l)),(7,.av (.int .i64) (.i .i64 l.length)),(8,.av (.int .i64) (.i .i64 k)),(3,.av (.int .i64) (.i .i64 (knW (l.take k))))] [] (fun _=>0) [])
  (fun k=>k≤l.length) (fun k=>l.length-k) 0 ?_ ?_ ?_
 ·refine Le.of ?_ ?_ ?_ ?_ ?_<;>simp[qU,qG,zL,knW]<;>try omega
 ·omega
 rintro k hk KL hN hE
 refine qM (cf:=cf0) laid mixed _ _ _ (by kernel_rfl) ?_
 by_cases hlt:k<l.length
 ·have hlt':(k:Int)<l.length:=by omega
  have hg:=pZ l k hlt
  have hs:=zjw l k hlt
  have ht:=zhI l (k+1)
  obtain⟨m,hm⟩:∃m,m=knW (l.take k):=⟨_,rfl⟩
  rw[←hm]at hs ⊢
  have hs':(knW (l.take (k+1)):Int)=m+(l[k].path.length+l[k].data.length+1):=by omega
  (simp (maxSteps:=2000000) (disch:=first|omega|assumption) [zz,-List.reduceReplicate,hlt',hg,zH,zL])
  refine hN _ (k+1) ?_ (by omega) (by omega)
  refine Le.of ?_ ?_ ?_ ?_ ?_<;>simp[qU,qG,zL,hs']<;>try omega
 ·have hkn:k=l.length:=by omega
  subst hkn
  have hlt':¬(l.length:Int)<l.length:=by omega
  (simp (maxSteps:=2000000) (disch:=first|omega|assumption) [zz,-List.reduceReplicate,hlt',zL])
  refine hE _ _ (by simp) ?_
  by_cases h5:5000<knW l
  ·have h5':(5000:Int)<knW l:=by omega
   (simp (maxSteps:=2000000) (disch:=first|omega|assumption) [zz,-List.reduceReplicate,h5,h5',Tryz.f15])
  ·have h5':¬(5000:Int)<knW l:=by omega
   (simp (maxSteps:=2000000) (disch:=first|omega|assumption) [zz,-List.reduceReplicate,h5,h5',Tryz.f15])
theorem zcM (s:Txt) (l:List Txt) (hl:l.length≤1000000000):PC Tryz.prog 54 [.av .str (.s s),.av (.slice 9) (.sl .no (strs l))] (.av .bool (.b (decide (s∈l)))):=by
 refine PC.of <| q7.of_vc laid mixed Tryz.func54 rfl cf0 (by kernel_rfl) (by simp[Tryz.ntmps54]) fun imm0 w0=>?_
 (simp (maxSteps:=2000000) (disch:=first|omega|assumption) [zz,-List.reduceReplicate])
 refine AT.loop' (α:=Nat) (fun k=>St.of [(0,.av .str (.s s)),(7,.av (.slice 9) (.sl .no (strs l))),(8,.av (.int .i64) (.i .i64 l.length)),(9,.av (.int .i64) (.i .i64 k))] [] (fun _=>0) [])
  (fun k=>k≤l.length∧s∉l.take k) (fun k=>l.length-k) 0 ?_ ?_ ?_
 ·refine Le.of ?_ ?_ ?_ ?_ ?_<;>simp[qU,qG,qX]<;>try omega
 ·simp
 rintro k ⟨hk,hno⟩ KL hN hE
 refine qM (cf:=cf0) laid mixed _ _ _ (by kernel_rfl) ?_
 by_cases hlt:k<l.length
 ·have hlt':(k:Int)<l.length:=by omega
  have hg:=yH l k hlt
  by_cases hc:l[k]=s
  ·have hin:s∈l:=hc▸List.getElem_mem hlt
   (simp (maxSteps:=2000000) (disch:=first|omega|assumption) [zz,-List.reduceReplicate,hlt',hg,hc,qX])
   refine hE _ _ (by simp) ?_
   (simp (maxSteps:=2000000) (disch:=first|omega|assumption) [zz,-List.reduceReplicate,hin,Tryz.f54])
  ·(simp (maxSteps:=2000000) (disch:=first|omega|assumption) [zz,-List.reduceReplicate,hlt',hg,hc,qX])
   refine hN _ (k+1) ?_ ⟨by omega,fun h=>?_⟩ (by omega)
   ·refine Le.of ?_ ?_ ?_ ?_ ?_<;>simp[qU,qG,qX]<;>try omega
   ·rw[List.take_succ_eq_append_getElem hlt]at h
    rcases List.mem_append.1 h with h|h
    ·exact hno h
    ·exact hc (List.mem_singleton.1 h).symm
 ·have hlt':¬(k:Int)<l.length:=by omega
  rw[List.take_of_length_le (by omega)]at hno
  (simp (maxSteps:=2000000) (disch:=first|omega|assumption) [zz,-List.reduceReplicate,hlt',qX])
  refine hE _ _ (by simp) ?_
  (simp (maxSteps:=2000000) (disch:=first|omega|assumption) [zz,-List.reduceReplicate,hno,Tryz.f54])
theorem GX {a b:U1}:jZ a=jZ b↔a=b:=by
 cases a;cases b;simp[jZ]
def WJ (a b:zcy):Bool:=decide (a.kind=b.kind∧a.why=b.why∧a.outs=b.outs∧a.reads=b.reads)
theorem u5 {a b:zcy}:WJ a b=true↔a=b:=by cases a;cases b;simp[WJ]
set_option maxHeartbeats 16000000 in
theorem VG (a b:zcy) (ha1:a.outs.length≤1000000000) (ha2:a.reads.length≤1000000000) (hb1:b.outs.length≤1000000000) (hb2:b.reads.length≤1000000000) :
  PC Tryz.prog 20 [.av (qD Tryz.prog 41) (zI a),.av (qD Tryz.prog 41) (zI b)] (.av .bool (.b (WJ a b))):=by
 refine PC.of <| q7.of_vc laid mixed Tryz.func20 rfl cf0 (by kernel_rfl) (by simp[Tryz.ntmps20]) fun imm0 w0=>?_
 by_cases h1:a.kind=b.kind
 rotate_left
 ·(simp (maxSteps:=2000000) (disch:=first|omega|assumption) [zz,-List.reduceReplicate,zI,zU,qF,h1,Tryz.f20,WJ])
 by_cases h2:a.why=b.why
 rotate_left
 ·(simp (maxSteps:=2000000) (disch:=first|omega|assumption) [zz,-List.reduceReplicate,zI,zU,qF,h1,h2,Tryz.f20,WJ])
 by_cases h3:a.outs.length=b.outs.length
 rotate_left
 ·have h3':¬(a.outs.length:Int)=b.outs.length:=by omega
  have h4:¬a.outs=b.outs:=fun e=>h3 (by rw[e])
  (simp (maxSteps:=2000000) (disch:=first|omega|assumption) [zz,-List.reduceReplicate,zI,zU,qF,h1,h2,h3',Tryz.f20,WJ,h4])
 have h3':(a.outs.length:Int)=b.outs.length:=by omega
 by_cases h4:a.reads.length=b.reads.length
 rotate_left
 ·have h4':¬(a.reads.length:Int)=b.reads.length:=by omega
  have h5:¬a.reads=b.reads:=fun e=>h4 (by rw[e])
  (simp (maxSteps:=2000000) (disch:=first|omega|assumption) [zz,-List.reduceReplicate,zI,zU,qF,h1,h2,h3',h4',Tryz.f20,WJ,h5])
 have h4':(a.reads.length:Int)=b.reads.length:=by omega
 (simp (maxSteps:=2000000) (disch:=first|omega|assumption) [zz,-List.reduceReplicate,zI,zU,qF,h1,h2,h3',h4'])
 refine AT.loop' (α:=Nat) (fun k=>St.of [(2,.loc 2 []),(3,.loc 3 []),(39,.av (.int .i64) (.i .i64 b.outs.length)),(40,.av (.int .i64) (.i .i64 k))] [(2,(qD Tryz.prog 41,zI a)),(3,(qD Tryz.prog 41,zI b))] (fun _=>0) [])
  (fun k=>k≤b.outs.length∧∀i,i<k→∀(h1:i<a.outs.length) (h2:i<b.outs.length),a.outs[i]=b.outs[i]) (fun k=>b.outs.length-k) 0 ?_ ?_ ?_
 ·refine Le.of ?_ ?_ ?_ ?_ ?_<;>simp[qU,qG,zI,zU,qF,h1,h2]<;>try omega
 ·exact⟨by omega,fun i h=>by omega⟩
 rintro k ⟨hk,hall⟩ KL hN hE
 refine qM (cf:=cf0) laid mixed _ _ _ (by kernel_rfl) ?_
 by_cases hlt:k<b.outs.length
 ·have hlt':(k:Int)<b.outs.length:=by omega
  have hga:=KB jZ a.outs k (by omega)
  have hgb:=KB jZ b.outs k hlt
  have hlta:(k:Int)<a.outs.length:=by omega
  by_cases hc:a.outs[k]=b.outs[k]
  ·(simp (maxSteps:=2000000) (disch:=first|omega|assumption) [zz,-List.reduceReplicate,hlt',hlta,hga,hgb,zI,zU,qF,GX,hc])
   (repeat with_reducible refine om ?_)
   refine hN _ (k+1) ?_ ⟨by omega,fun i hi h1 h2=>?_⟩ (by omega)
   ·refine Le.of ?_ ?_ ?_ ?_ ?_<;>simp[qU,qG,zI,zU,qF]<;>try omega
   ·rcases Nat.lt_or_ge i k with h|h
    ·exact hall i h h1 h2
    ·have:i=k:=by omega
     subst this;exact hc
  ·have hne:¬a.outs=b.outs:=fun e=>hc (by simp[e])
   (simp (maxSteps:=2000000) (disch:=first|omega|assumption) [zz,-List.reduceReplicate,hlt',hlta,hga,hgb,zI,zU,qF,GX,hc])
   (repeat with_reducible refine om ?_)
   refine hE _ _ (by simp) ?_
   (simp (maxSteps:=2000000) (disch:=first|omega|assumption) [zz,-List.reduceReplicate,Tryz.f20,WJ,hne])
 have hlt':¬(k:Int)<b.outs.length:=by omega
 have hr:a.outs=b.outs:=C0 h3 fun i h1 h2=>hall i (by omega) h1 h2
 (simp (maxSteps:=2000000) (disch:=first|omega|assumption) [zz,-List.reduceReplicate,hlt',zI,zU,qF])
 refine hE _ _ (by simp) ?_
 (simp (maxSteps:=2000000) (disch:=first|omega|assumption) [zz,-List.reduceReplicate,h4'])
 refine AT.loop' (α:=Nat) (fun k=>St.of [(2,.loc 2 []),(3,.loc 3 []),(57,.av (.int .i64) (.i .i64 b.reads.length)),(58,.av (.int .i64) (.i .i64 k))] [(2,(qD Tryz.prog 41,zI a)),(3,(qD Tryz.prog 41,zI b))] (fun _=>0) [])
  (fun k=>k≤b.reads.length∧∀i,i<k→∀(h1:i<a.reads.length) (h2:i<b.reads.length),a.reads[i]=b.reads[i]) (fun k=>b.reads.length-k) 0 ?_ ?_ ?_
 ·refine Le.of ?_ ?_ ?_ ?_ ?_<;>simp[qU,qG,zI,zU,qF]<;>try omega
 ·exact⟨by omega,fun i h=>by omega⟩
 rintro k2 ⟨hk2,hall2⟩ KL2 hN2 hE2
 refine qM (cf:=cf0) laid mixed _ _ _ (by kernel_rfl) ?_
 by_cases hlt2:k2<b.reads.length
 ·have hlt2':(k2:Int)<b.reads.length:=by omega
  have hga:=KB qI a.reads k2 (by omega)
  have hgb:=KB qI b.reads k2 hlt2
  have hlta:(k2:Int)<a.reads.length:=by omega
  by_cases hc:a.reads[k2]=b.reads[k2]
  ·(simp (maxSteps:=2000000) (disch:=first|omega|assumption) [zz,-List.reduceReplicate,hlt2',hlta,hga,hgb,zI,zU,qF,GV,hc])
   (repeat with_reducible refine om ?_)
   refine hN2 _ (k2+1) ?_ ⟨by omega,fun i hi h1 h2=>?_⟩ (by omega)
   ·refine Le.of ?_ ?_ ?_ ?_ ?_<;>simp[qU,qG,zI,zU,qF]<;>try omega
   ·rcases Nat.lt_or_ge i k2 with h|h
    ·exact hall2 i h h1 h2
    ·have:i=k2:=by omega
     subst this;exact hc
  ·have hne:¬a.reads=b.reads:=fun e=>hc (by simp[e])
   (simp (maxSteps:=2000000) (disch:=first|omega|assumption) [zz,-List.reduceReplicate,hlt2',hlta,hga,hgb,zI,zU,qF,GV,hc])
   (repeat with_reducible refine om ?_)
   refine hE2 _ _ (by simp) ?_
   (simp (maxSteps:=2000000) (disch:=first|omega|assumption) [zz,-List.reduceReplicate,Tryz.f20,WJ,hne])
 ·have hlt2':¬(k2:Int)<b.reads.length:=by omega
  have ho:a.reads=b.reads:=C0 h4 fun i h1 h2=>hall2 i (by omega) h1 h2
  (simp (maxSteps:=2000000) (disch:=first|omega|assumption) [zz,-List.reduceReplicate,hlt2',zI,zU,qF])
  refine hE2 _ _ (by simp) ?_
  (simp (maxSteps:=2000000) (disch:=first|omega|assumption) [zz,-List.reduceReplicate,Tryz.f20,WJ,hr,ho,h1,h2])
end Go.Proofs.YthgocigdldgpgaaGreatDoor
end
section
set_option maxRecDepth 100000
namespace Go.Proofs.YthgocigdldgpgaaGreatDoor
open Go Go.Ab
open Classical
variable [Sel]
def xK (en:Array MapEntry) (ids:List Nat):Array Nat:=(ids.map fun i=>(en[i]?.map (·.born)).getD 0).toArray
theorem cV {en:Array MapEntry} {ck:Nat} (hst:yX en.toList ck) {ids:List Nat} (hids:∀i∈ids,i<en.size) {i:Nat} {me:MapEntry} (hi:en[i]?=some me):me.born∈xK en ids↔i∈ids:=by
 unfold xK
 rw[List.mem_toArray,List.mem_map]
 constructor
 ·rintro⟨j,hj,e⟩
  have hjs:=hids j hj
  rw[Array.getElem?_eq_getElem hjs]at e
  simp only[Option.map_some,Option.getD_some]at e
  obtain⟨his,rfl⟩:=Array.getElem?_eq_some_iff.1 hi
  have hnd:=hst.2
  have h1:(en.toList.map (·.born))[j]'(by simpa using hjs)=(en.toList.map (·.born))[i]'(by simpa using his):=by simpa using e
  have:=(List.getElem_inj hnd).1 h1
  rw[←this];exact hj
 ·intro h
  exact⟨i,h,by rw[hi];rfl⟩
theorem zdQ (en:Array MapEntry) (ids:List Nat) {i:Nat} {me:MapEntry} (hi:en[i]?=some me):(xK en ids).push me.born=xK en (ids++[i]):=by
 unfold xK
 apply Array.toList_inj.1
 simp[hi]
def XL (ks:List (List UInt8)) (ids:List Nat):List (List UInt8):=ids.map fun i=>(ks[i]?).getD []
theorem zdP {ks:List (List UInt8)} {ids:List Nat} (hn:ids.Nodup) (hlt:∀i∈ids,i<ks.length) (hall:∀i,i<ks.length→i∈ids):(XL ks ids).Perm ks:=by
 have h1:ids.Perm (List.range ks.length):=by
  rw[List.perm_ext_iff_of_nodup hn List.nodup_range]
  intro i
  rw[List.mem_range]
  exact⟨hlt i,hall i⟩
 have h2:(List.range ks.length).map (fun i=>(ks[i]?).getD [])=ks:=by
  refine List.ext_getElem (by simp) fun t h1 h2=>?_
  simp only[List.getElem_map,List.getElem_range]
  rw[List.getElem?_eq_getElem h2];rfl
 have:=h1.map (fun i=>(ks[i]?).getD ([]:Dig))
 rw[h2]at this
 exact this
theorem gK:∀(n:Nat) (l:List Nat),l.Nodup→(∀i∈l,i<n)→l.length≤n
 | 0,l,_,h=>by
  cases l with
  | nil=>simp
  | cons x r=>exact absurd (h x (by simp)) (Nat.not_lt_zero _)
 | n+1,l,hn,h=>by
  by_cases hm:n∈l
  ·have:=gK n (l.erase n) (hn.erase n) (fun i hi=>by
    have h1:=(List.Nodup.mem_erase_iff hn).1 hi
    have:=h i h1.2
    have:=h1.1
    omega)
   rw[List.length_erase_of_mem hm]at this
   omega
  ·have:=gK n l hn (fun i hi=>by
    have h1:=h i hi
    have:i≠n:=fun e=>hm (e▸hi)
    omega)
   omega
end Go.Proofs.YthgocigdldgpgaaGreatDoor
end
