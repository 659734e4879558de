/- The first place where something is so. No condition beyond each theorem's own. -/
import Derived.Test.YthgocigdldgpgaaGreatDoorB0
import Derived.Test.YthgocigdldgpgaaGreatDoorK11ToKT0
import Derived.Test.YthgocigdldgpgaaGreatDoorKIToK4
set_option linter.unusedSimpArgs false
set_option linter.unusedVariables false
set_option linter.unusedSectionVars false
section
set_option maxRecDepth 100000
namespace Go.Proofs.YthgocigdldgpgaaGreatDoor
open Go Go.Ab
open Classical
variable [Sel]
def J7 {α:Type} (p:α→Bool) (xs:List α):Int:=match xs.findIdx? p with|some i=>i|none=>-1
theorem uL {α:Type} {p:α→Bool} {xs:List α} {k:Nat} (hlt:k<xs.length) (h0:∀x∈xs.take k,p x=false) (h1:p xs[k]=true):J7 p xs=k:=by
 have:xs.findIdx? p=some k:=by
  rw[List.findIdx?_eq_some_iff_getElem]
  refine⟨hlt,h1,fun j hj=>?_⟩
  rw[h0 _ (List.mem_take_iff_getElem.2 ⟨j,by omega,rfl⟩)];simp
 simp[J7,this]
theorem x9 {α:Type} {p:α→Bool} {xs:List α} (h0:∀x∈xs,p x=false):J7 p xs=-1:=by
 have:xs.findIdx? p=none:=by
  rw[List.findIdx?_eq_none_iff];exact h0
 simp[J7,this]
theorem ze8 {α:Type} (p:α→Bool) (xs:List α):(J7 p xs=-1∧xs.find? p=none)∨∃(i:Nat) (h:i<xs.length),J7 p xs=i∧xs.find? p=some xs[i]:=by
 unfold J7
 cases h:xs.findIdx? p with
 | none =>
  left;rw[List.findIdx?_eq_none_iff]at h
  exact⟨rfl,List.find?_eq_none.2 fun x hx=>by simp[h x hx]⟩
 | some i =>
  right
  rw[List.findIdx?_eq_some_iff_getElem]at h
  obtain⟨hl,hp,hn⟩:=h
  refine⟨i,hl,rfl,?_⟩
  rw[List.find?_eq_some_iff_getElem]
  exact⟨hp,i,hl,rfl,fun j hj=>by simpa using hn j hj⟩
theorem YV {α:Type} (p:α→Bool) (xs:List α):(J7 p xs=-1∧∀x∈xs,p x=false)∨∃(i:Nat) (h:i<xs.length),J7 p xs=i∧p xs[i]=true∧∀x∈xs.take i,p x=false:=by
 unfold J7
 cases h:xs.findIdx? p with
 | none =>
  left;rw[List.findIdx?_eq_none_iff]at h
  exact⟨rfl,h⟩
 | some i =>
  right
  rw[List.findIdx?_eq_some_iff_getElem]at h
  obtain⟨hl,hp,hn⟩:=h
  refine⟨i,hl,rfl,hp,fun x hx=>?_⟩
  obtain⟨q,hq,rfl⟩:=List.mem_take_iff_getElem.1 hx
  simpa using hn q (by omega)
theorem zgc (A M:List AV) (m y:AV):(A++(m::M)).set A.length y=A++(y::M):=by
 rw[List.set_append_right _ _ (Nat.le_refl _)];simp
end Go.Proofs.YthgocigdldgpgaaGreatDoor
end
section
set_option maxRecDepth 100000
namespace Go.Proofs.YthgocigdldgpgaaGreatDoor
open Go Go.Ab
open Classical
variable [Sel] [SelPow] [SelMax]
@[simp] theorem zkV:qZ Tryz.prog 127=true:=by kernel_rfl
@[simp] theorem zr0:z8 Tryz.prog (.func 127)=false:=q9 zkV
@[simp] theorem zo7:qZ Tryz.prog 88=true:=by kernel_rfl
@[simp] theorem zs5:z8 Tryz.prog (.func 88)=false:=q9 zo7
@[simp] theorem zlE:qZ Tryz.prog 154=true:=by kernel_rfl
@[simp] theorem zqT:z8 Tryz.prog (.func 154)=false:=q9 zlE
@[simp] theorem zkI:qZ Tryz.prog 155=true:=by kernel_rfl
@[simp] theorem zqD:z8 Tryz.prog (.func 155)=false:=q9 zkI
@[simp] theorem zkM:qZ Tryz.prog 112=true:=by kernel_rfl
@[simp] theorem zqf:z8 Tryz.prog (.func 112)=false:=q9 zkM
@[simp] theorem zmQ:qZ Tryz.prog 114=true:=by kernel_rfl
@[simp] theorem zqv:z8 Tryz.prog (.func 114)=false:=q9 zmQ
theorem JK.strs (l:List Txt):JK (strs l):=VW l
noncomputable def wY (cap:Nat) (ts:List Txt) (j:List AV):HObj:=.var (.arr cap 9) (.agg (strs ts++j))
theorem KE {cap:Nat} {ts:List Txt} {j:List AV} (h:JK j):(wY cap ts j).er=wY cap ts j:=by
 simp only[wY,HObj.er_var,AV.erk,uC,VW]
 rw[show AV.erks j=j from h]
def zaJ (f:AV) (bt:Nat) (o:HObj) (g:Txt→Bool) (ts:List Txt):Prop:=o.er=o∧f.er=f∧∀x∈ts,VC1 f [.av .str (.s x)] [(bt,o)] fun r H'=>r=.av .bool (.b (g x))∧H'=[(bt,o)]
set_option maxHeartbeats 4000000 in
theorem zdl (g:Txt→Bool) (f:AV) (bt:Nat) (o:HObj) (ts:List Txt) (hf:zaJ f bt o g ts) (b cap:Nat) (j:List AV) (hj:JK j) (hb:b≠bt) (hcap:ts.length+j.length=cap) (hn:ts.length≤1000000000) :
  q7 Tryz.prog 127 [.av (.slice 9) (.msl b 9 0 ts.length cap),.av .func f] [(b,wY cap ts j),(bt,o)]
   fun r H'=>r=.av (.int .i64) (.i .i64 (J7 g ts))∧H'=[(b,wY cap ts j),(bt,o)]:=by
 obtain⟨ho,hfe,hff⟩:=hf
 have hre:=KE (cap:=cap) (ts:=ts) hj
 refine q7.of_vc laid mixed Tryz.func127 rfl cf0 (by kernel_rfl) (by simp[Tryz.ntmps127]) fun imm0 w0=>?_
 (simp (maxSteps:=2000000) (disch:=first|omega|assumption) [zz,-List.reduceReplicate])
 refine AT.loop' (α:=Nat) (fun k=>St.of [(0,.av (.slice 9) (.msl b 9 0 ts.length cap)),(1,.av .func f),(7,.av (.int .i64) (.i .i64 ts.length)),(8,.av (.int .i64) (.i .i64 k))] [] (fun _=>0) [(b,wY cap ts j),(bt,o)])
  (fun k=>k≤ts.length∧∀x∈ts.take k,g x=false) (fun k=>ts.length-k) 0 ?_ ?_ ?_
 ·refine Le.of ?_ ?_ ?_ ?_ ?_<;>simp[qU,qG]
 ·simp
 rintro k ⟨hk',hpk⟩ KL hN hE
 refine qM (cf:=cf0) laid mixed _ _ _ (by kernel_rfl) ?_
 by_cases hlt:k<ts.length
 ·have hlt':(k:Int)<ts.length:=by omega
  have hg:=YT ts j k hlt
  (simp (maxSteps:=2000000) (disch:=first|omega|assumption) [zz,-List.reduceReplicate,hlt',wY,hg])
  refine ZG (R:=fun r' H'=>r'=.av .bool (.b (g ts[k]))∧H'=[(bt,o)]) [(bt,o)] [(b,wY cap ts j)] (by simpa[wY]using List.Perm.swap _ _ _) (by simp[q8.er_cons,ho]) (by simp[qQ]) (hff _ (List.getElem_mem hlt)) ?_
  rintro r' H' ⟨rfl,rfl⟩ _
  refine⟨[(b,wY cap ts j),(bt,o)],HSub.of_perm (List.Perm.swap _ _ _),?_⟩
  by_cases hp:g ts[k]=true
  ·(simp (maxSteps:=2000000) (disch:=first|omega|assumption) [zz,-List.reduceReplicate,hp])
   refine hE _ _ (by simp) ?_
   (simp (maxSteps:=2000000) (disch:=first|omega|assumption) [zz,-List.reduceReplicate,Tryz.f127,uL hlt hpk hp,hre,ho])
  ·(simp (maxSteps:=2000000) (disch:=first|omega|assumption) [zz,-List.reduceReplicate,hp])
   refine hN _ (k+1) ?_ ⟨by omega,by rw[Z2 hlt];exact⟨hpk,by simpa using hp⟩⟩ (by omega)
   refine Le.of ?_ ?_ ?_ ?_ ?_<;>simp[qU,qG]
 ·have hlt':¬(k:Int)<ts.length:=by omega
  (simp (maxSteps:=2000000) (disch:=first|omega|assumption) [zz,-List.reduceReplicate,hlt'])
  refine hE _ _ (by simp) ?_
  rw[List.take_of_length_le (by omega)]at hpk
  (simp (maxSteps:=2000000) (disch:=first|omega|assumption) [zz,-List.reduceReplicate,Tryz.f127,x9 hpk,hre,ho])
theorem zb2 (f:AV) (bt:Nat) (o:HObj) (ho:o.er=o) :
  q7 Tryz.prog 127 [.av (.slice 9) (.sl .no []),.av .func f] [(bt,o)]
   fun r H'=>r=.av (.int .i64) (.i .i64 (-1))∧H'=[(bt,o)]:=by
 refine q7.of_vc laid mixed Tryz.func127 rfl cf0 (by kernel_rfl) (by simp[Tryz.ntmps127]) fun imm0 w0=>?_
 (simp (maxSteps:=2000000) (disch:=first|omega|assumption) [zz,-List.reduceReplicate])
 refine AT.loop' (α:=Nat) (fun k=>St.of [(7,.av (.int .i64) (.i .i64 0)),(8,.av (.int .i64) (.i .i64 0))] [] (fun _=>0) [(bt,o)])
  (fun k=>True) (fun k=>0) 0 ?_ ?_ ?_
 ·refine Le.of ?_ ?_ ?_ ?_ ?_<;>simp[qU,qG]
 ·simp
 rintro k-KL hN hE
 refine qM (cf:=cf0) laid mixed _ _ _ (by kernel_rfl) ?_
 (simp (maxSteps:=2000000) (disch:=first|omega|assumption) [zz,-List.reduceReplicate])
 refine hE _ _ (by simp) ?_
 (simp (maxSteps:=2000000) (disch:=first|omega|assumption) [zz,-List.reduceReplicate,Tryz.f127,ho])
theorem zjG (g:Txt→Bool) (f:AV) (bt:Nat) (o:HObj) (ts:List Txt) (hf:zaJ f bt o g ts) (v:AV) (H:q8) (hrow:KF ts v H) (hb:∀b∈H.keys,b≠bt) (hn:ts.length≤1000000000) :
  q7 Tryz.prog 88 [.av (.slice 9) v,.av .func f] (H++[(bt,o)]) fun r H'=>r=.av .bool (.b (ts.any g))∧H'=H++[(bt,o)]:=by
 have ho:=hf.1
 have hfe:=hf.2.1
 rcases hrow with⟨rfl,rfl,rfl⟩|⟨b,cap,j,hj,rfl,hc,rfl⟩
 ·refine q7.of_vc laid mixed Tryz.func88 rfl cf0 (by kernel_rfl) (by simp[Tryz.ntmps88]) fun imm0 w0=>?_
  (simp (maxSteps:=2000000) (disch:=first|omega|assumption) [zz,-List.reduceReplicate])
  refine jP (R:=fun r' H'=>r'=.av (.int .i64) (.i .i64 (-1))∧H'=[(bt,o)]) rfl (by simp[qQ]) (by simp) ?_ ?_
  ·have:=zb2 f bt o ho
   simpa[TV.er,AV.er,q8.er_cons,ho,hfe]using this
  rintro r' H' ⟨rfl,rfl⟩
  (simp (maxSteps:=2000000) (disch:=first|omega|assumption) [zz,-List.reduceReplicate,Tryz.f88,ho])
 ·have hbb:b≠bt:=hb b (by simp[q8.keys])
  have hre:=KE (cap:=cap) (ts:=ts) hj
  refine q7.of_vc laid mixed Tryz.func88 rfl cf0 (by kernel_rfl) (by simp[Tryz.ntmps88]) fun imm0 w0=>?_
  (simp (maxSteps:=2000000) (disch:=first|omega|assumption) [zz,-List.reduceReplicate])
  refine jP (R:=fun r' H'=>r'=.av (.int .i64) (.i .i64 (J7 g ts))∧H'=[(b,wY cap ts j),(bt,o)]) rfl (by simp[qQ]) (by simp) ?_ ?_
  ·have:=zdl g f bt o ts hf b cap j hj hbb hc hn
   rw[show q8.er [(b,HObj.var (TyD.arr cap 9) (AV.agg (strs ts++j))),(bt,o)]=[(b,wY cap ts j),(bt,o)] by
    rw[q8.er_cons,q8.er_cons,ho];rw[show (HObj.var (TyD.arr cap 9) (AV.agg (strs ts++j))).er=wY cap ts j from hre];rfl]
   simpa[TV.er,AV.er,hfe]using this
  rintro r' H' ⟨rfl,rfl⟩
  rcases YV g ts with⟨he,hall⟩|⟨i,hi,he,hs,_⟩
  ·have:ts.any g=false:=by simpa using hall
   (simp (maxSteps:=2000000) (disch:=first|omega|assumption) [zz,-List.reduceReplicate,he,this,Tryz.f88,hre,ho])
   rfl
  ·have h1:ts.any g=true:=by simp;exact⟨_,List.getElem_mem hi,hs⟩
   have h2:(0:Int)≤i:=by omega
   (simp (maxSteps:=2000000) (disch:=first|omega|assumption) [zz,-List.reduceReplicate,he,h1,h2,Tryz.f88,hre,ho])
   rfl
@[simp] theorem zot:qZ Tryz.prog 87=true:=by kernel_rfl
@[simp] theorem zrz:z8 Tryz.prog (.func 87)=false:=q9 zot
@[simp] theorem zmi:qZ Tryz.prog 126=true:=by kernel_rfl
@[simp] theorem zpU:z8 Tryz.prog (.func 126)=false:=q9 zmi
@[simp] theorem zoj:qZ Tryz.prog 43=true:=by kernel_rfl
@[simp] theorem zrQ:z8 Tryz.prog (.func 43)=false:=q9 zoj
def zn9 (f:AV) (Hs:q8) (g:Txt→Bool) (ts:List Txt):Prop:=Hs.er=Hs∧f.er=f∧∀x∈ts,VC1 f [.av .str (.s x)] Hs fun r H'=>r=.av .bool (.b (g x))∧H'=Hs
set_option maxHeartbeats 4000000 in
theorem zmG (g:Txt→Bool) (f:AV) (Hs:q8) (ts:List Txt) (hf:zn9 f Hs g ts) (hn:ts.length≤1000000000) :
  q7 Tryz.prog 127 [.av (.slice 9) (.sl .no (strs ts)),.av .func f] Hs
   fun r H'=>r=.av (.int .i64) (.i .i64 (J7 g ts))∧H'=Hs:=by
 obtain⟨ho,hfe,hff⟩:=hf
 refine q7.of_vc laid mixed Tryz.func127 rfl cf0 (by kernel_rfl) (by simp[Tryz.ntmps127]) fun imm0 w0=>?_
 (simp (maxSteps:=2000000) (disch:=first|omega|assumption) [zz,-List.reduceReplicate])
 refine AT.loop' (α:=Nat) (fun k=>St.of [(0,.av (.slice 9) (.sl .no (strs ts))),(1,.av .func f),(7,.av (.int .i64) (.i .i64 ts.length)),(8,.av (.int .i64) (.i .i64 k))] [] (fun _=>0) Hs)
  (fun k=>k≤ts.length∧∀x∈ts.take k,g x=false) (fun k=>ts.length-k) 0 ?_ ?_ ?_
 ·refine Le.of ?_ ?_ ?_ ?_ ?_<;>simp[qU,qG]
 ·simp
 rintro k ⟨hk',hpk⟩ KL hN hE
 refine qM (cf:=cf0) laid mixed _ _ _ (by kernel_rfl) ?_
 by_cases hlt:k<ts.length
 ·have hlt':(k:Int)<ts.length:=by omega
  have hg:=yH ts k hlt
  (simp (maxSteps:=2000000) (disch:=first|omega|assumption) [zz,-List.reduceReplicate,hlt',hg])
  refine ZG (R:=fun r' H'=>r'=.av .bool (.b (g ts[k]))∧H'=Hs) Hs [] (by simp) ho (by simp[qQ]) (hff _ (List.getElem_mem hlt)) ?_
  rintro r' H' ⟨rfl,rfl⟩ _
  refine⟨H',by simpa using HSub.refl _,?_⟩
  by_cases hp:g ts[k]=true
  ·(simp (maxSteps:=2000000) (disch:=first|omega|assumption) [zz,-List.reduceReplicate,hp])
   refine hE _ _ (by simp) ?_
   (simp (maxSteps:=2000000) (disch:=first|omega|assumption) [zz,-List.reduceReplicate,Tryz.f127,uL hlt hpk hp,ho])
  ·(simp (maxSteps:=2000000) (disch:=first|omega|assumption) [zz,-List.reduceReplicate,hp])
   refine hN _ (k+1) ?_ ⟨by omega,by rw[Z2 hlt];exact⟨hpk,by simpa using hp⟩⟩ (by omega)
   refine Le.of ?_ ?_ ?_ ?_ ?_<;>simp[qU,qG]
 ·have hlt':¬(k:Int)<ts.length:=by omega
  (simp (maxSteps:=2000000) (disch:=first|omega|assumption) [zz,-List.reduceReplicate,hlt'])
  refine hE _ _ (by simp) ?_
  rw[List.take_of_length_le (by omega)]at hpk
  (simp (maxSteps:=2000000) (disch:=first|omega|assumption) [zz,-List.reduceReplicate,Tryz.f127,x9 hpk,ho])
theorem zbk (g:Txt→Bool) (f:AV) (Hs:q8) (ts:List Txt) (hf:zn9 f Hs g ts) (hn:ts.length≤1000000000) :
  q7 Tryz.prog 88 [.av (.slice 9) (.sl .no (strs ts)),.av .func f] Hs fun r H'=>r=.av .bool (.b (ts.any g))∧H'=Hs:=by
 have ho:=hf.1
 have hfe:=hf.2.1
 have hek:AV.ers (strs ts)=strs ts:=zjB ts
 refine q7.of_vc laid mixed Tryz.func88 rfl cf0 (by kernel_rfl) (by simp[Tryz.ntmps88]) fun imm0 w0=>?_
 (simp (maxSteps:=2000000) (disch:=first|omega|assumption) [zz,-List.reduceReplicate])
 refine qE (R:=fun r' H'=>r'=.av (.int .i64) (.i .i64 (J7 g ts))∧H'=Hs) Hs [] (by simp) rfl (by simp[qQ]) (by simp) ?_ ?_
 ·rw[ho]
  have:=zmG g f Hs ts hf hn
  simpa[TV.er,AV.er,hek,hfe]using this
 rintro r' H' ⟨rfl,rfl⟩ _
 refine⟨H',by simpa using HSub.refl _,?_⟩
 rcases YV g ts with⟨he,hall⟩|⟨i,hi,he,hs,_⟩
 ·have:ts.any g=false:=by simpa using hall
  (simp (maxSteps:=2000000) (disch:=first|omega|assumption) [zz,-List.reduceReplicate,he,this,Tryz.f88,ho])
 ·have h1:ts.any g=true:=by simp;exact⟨_,List.getElem_mem hi,hs⟩
  have h2:(0:Int)≤i:=by omega
  (simp (maxSteps:=2000000) (disch:=first|omega|assumption) [zz,-List.reduceReplicate,he,h1,h2,Tryz.f88,ho])
theorem zfj (ts:List Txt) (x:Txt) (hn:ts.length≤1000000000):PC Tryz.prog 126 [.av (.slice 9) (.sl .no (strs ts)),.av .str (.s x)] (.av (.int .i64) (.i .i64 (J7 (fun y=>decide (y=x)) ts))):=by
 refine PC.of <| q7.of_vc laid mixed Tryz.func126 rfl cf0 (by kernel_rfl) (by simp[Tryz.ntmps126]) fun imm0 w0=>?_
 (simp (maxSteps:=2000000) (disch:=first|omega|assumption) [zz,-List.reduceReplicate])
 refine AT.loop' (α:=Nat) (fun k=>St.of [(0,.av (.slice 9) (.sl .no (strs ts))),(1,.av .str (.s x)),(7,.av (.int .i64) (.i .i64 ts.length)),(8,.av (.int .i64) (.i .i64 k))] [] (fun _=>0) [])
  (fun k=>k≤ts.length∧∀y∈ts.take k,(fun y=>decide (y=x)) y=false) (fun k=>ts.length-k) 0 ?_ ?_ ?_
 ·refine Le.of ?_ ?_ ?_ ?_ ?_<;>simp[qU,qG]
 ·simp
 rintro k ⟨hk',hpk⟩ KL hN hE
 refine qM (cf:=cf0) laid mixed _ _ _ (by kernel_rfl) ?_
 by_cases hlt:k<ts.length
 ·have hlt':(k:Int)<ts.length:=by omega
  have hg:=yH ts k hlt
  by_cases hp:ts[k]=x
  ·have hp':x=ts[k]:=hp.symm
   have hi:=uL (p:=fun y=>decide (y=x)) hlt hpk (by simpa using hp)
   generalize ts[k]=y at *
   subst hp
   (simp (maxSteps:=2000000) (disch:=first|omega|assumption) [zz,-List.reduceReplicate,hlt',hg])
   refine hE _ _ (by simp) ?_
   (simp (maxSteps:=2000000) (disch:=first|omega|assumption) [zz,-List.reduceReplicate,Tryz.f126,hi])
  ·have hp':¬x=ts[k]:=fun e=>hp e.symm
   (simp (maxSteps:=2000000) (disch:=first|omega|assumption) [zz,-List.reduceReplicate,hlt',hg,hp'])
   refine hN _ (k+1) ?_ ⟨by omega,by rw[Z2 hlt];exact⟨hpk,by simpa using hp⟩⟩ (by omega)
   refine Le.of ?_ ?_ ?_ ?_ ?_<;>simp[qU,qG]
 ·have hlt':¬(k:Int)<ts.length:=by omega
  (simp (maxSteps:=2000000) (disch:=first|omega|assumption) [zz,-List.reduceReplicate,hlt'])
  refine hE _ _ (by simp) ?_
  rw[List.take_of_length_le (by omega)]at hpk
  (simp (maxSteps:=2000000) (disch:=first|omega|assumption) [zz,-List.reduceReplicate,Tryz.f126,x9 (p:=fun y=>decide (y=x)) hpk])
theorem JP (ts:List Txt) (x:Txt) (hn:ts.length≤1000000000):PC Tryz.prog 87 [.av (.slice 9) (.sl .no (strs ts)),.av .str (.s x)] (.av .bool (.b (decide (x∈ts)))):=by
 refine PC.of <| q7.of_vc laid mixed Tryz.func87 rfl cf0 (by kernel_rfl) (by simp[Tryz.ntmps87]) fun imm0 w0=>?_
 (simp (maxSteps:=2000000) (disch:=first|omega|assumption) [zz,-List.reduceReplicate])
 refine qL (zfj ts x hn) rfl rfl (by simp) (by simp[qS,TV.er,AV.er]) ?_
 rcases YV (fun y=>decide (y=x)) ts with⟨he,hall⟩|⟨i,hi,he,hs,_⟩
 ·have:¬x∈ts:=fun h=>by have:=hall x h;simp at this
  (simp (maxSteps:=2000000) (disch:=first|omega|assumption) [zz,-List.reduceReplicate,he,this,Tryz.f87])
 ·have h1:x∈ts:=by simp at hs;rw[←hs];exact List.getElem_mem hi
  have h2:(0:Int)≤i:=by omega
  (simp (maxSteps:=2000000) (disch:=first|omega|assumption) [zz,-List.reduceReplicate,he,h1,h2,Tryz.f87])
theorem x8 (l:List Txt) (hl:l.length≤1000000):PC Tryz.prog 43 [.av (.slice 9) (.sl .no (strs l))] (.av (.slice 9) (.sl .no (strs l))):=by
 have hby:Tryz.prog.bytesOf 9=16:=by kernel_rfl
 refine PC.of <| q7.of_vc laid mixed Tryz.func43 rfl cf0 (by kernel_rfl) (by simp[Tryz.ntmps43]) fun imm0 w0=>?_
 (simp (maxSteps:=2000000) (disch:=first|omega|assumption) [zz,-List.reduceReplicate])
 refine⟨?_,?_⟩
 ·intro h
  have:l=[]:=by simpa[strs]using h
  subst this
  (simp (maxSteps:=2000000) (disch:=first|omega|assumption) [zz,-List.reduceReplicate,Tryz.f43,strs])
 ·(simp (maxSteps:=2000000) (disch:=first|omega|assumption) [zz,-List.reduceReplicate,wB,hby,Tryz.f43])
  omega
end Go.Proofs.YthgocigdldgpgaaGreatDoor
end
