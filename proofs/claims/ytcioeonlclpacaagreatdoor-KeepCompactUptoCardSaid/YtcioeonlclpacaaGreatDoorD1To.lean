/- A key's row of traces: found, taken out, put in front. No condition beyond each theorem's own. -/
import Derived.Test.YtcioeonlclpacaaGreatDoorVCaToP14
import Derived.Test.YtcioeonlclpacaaGreatDoorP8ToE4a
set_option linter.unusedSimpArgs false
set_option linter.unusedVariables false
set_option linter.unusedSectionVars false
section
set_option maxRecDepth 100000
namespace Go.Proofs.YtcioeonlclpacaaGreatDoor
open Go Go.Ab
open Classical
variable [Sel]
@[simp] theorem znU:qZ Tryz.prog 57=true:=by kernel_rfl
@[simp] theorem zrA:z8 Tryz.prog (.func 57)=false:=q9 znU
@[simp] theorem zA0:qZ Tryz.prog 119=true:=by kernel_rfl
@[simp] theorem zAN:z8 Tryz.prog (.func 119)=false:=q9 zA0
@[simp] theorem znt:qZ Tryz.prog 56=true:=by kernel_rfl
@[simp] theorem zrk:z8 Tryz.prog (.func 56)=false:=q9 znt
@[simp] theorem znF:qZ Tryz.prog 59=true:=by kernel_rfl
@[simp] theorem zs9:z8 Tryz.prog (.func 59)=false:=q9 znF
@[simp] theorem zny:qZ Tryz.prog 60=true:=by kernel_rfl
@[simp] theorem zrp:z8 Tryz.prog (.func 60)=false:=q9 zny
@[simp] theorem zwN:qZ Tryz.prog 69=true:=by kernel_rfl
@[simp] theorem zxr:z8 Tryz.prog (.func 69)=false:=q9 zwN
@[simp] theorem zkk:qZ Tryz.prog 124=true:=by kernel_rfl
@[simp] theorem zrd:z8 Tryz.prog (.func 124)=false:=q9 zkk
@[simp] theorem zmj:qZ Tryz.prog 125=true:=by kernel_rfl
@[simp] theorem zqA:z8 Tryz.prog (.func 125)=false:=q9 zmj
def trs (l:List zaP):List AV:=l.map qK
@[simp] theorem zL1 (l:List zaP):(trs l).length=l.length:=by simp[trs]
@[simp] theorem zTd (l:List zaP):AV.ers (trs l)=trs l:=by simp[trs,AV.ers_eq,Function.comp_def]
@[simp] theorem zLe (l:List zaP):AV.erks (trs l)=trs l:=by simp[trs,AV.erks_eq,Function.comp_def]
theorem zOW (a b:List zaP):trs (a++b)=trs a++trs b:=by simp[trs]
theorem zRk (l:List zaP) (k:Nat) (h:k<l.length):(trs l)[k]?=some (qK l[k]):=by simp[trs,List.getElem?_eq_getElem h]
theorem zNZ (l:List zaP) (j:List AV) (k:Nat) (h:k<l.length):(trs l++j)[k]?=some (qK l[k]):=by
 rw[List.getElem?_append_left (by simpa using h),zRk l k h]
theorem JK.trs (l:List zaP):JK (trs l):=zLe l
def zKs:AV:=.agg [.agg (List.replicate 32 (.i .u8 0)),.sl .full [],.sl .full []]
theorem JK.zeros (n:Nat):JK (List.replicate n zKs):=by
 unfold JK;rw[AV.erks_eq,List.map_replicate]
 congr 1
noncomputable def KR (cap:Nat) (ts:List zaP) (j:List AV):HObj:=.var (.arr cap 49) (.agg (trs ts++j))
theorem zK9 {cap:Nat} {ts:List zaP} {j:List AV} (h:JK j):(KR cap ts j).er=KR cap ts j:=by
 simp only[KR,HObj.er_var,AV.erk,uC,zLe]
 rw[show AV.erks j=j from h]
abbrev TrT:TyD:=.struct [46,26,47]
noncomputable abbrev zN2 (bt:Nat):AV:=.fn 57 [.ptr bt TrT []]
noncomputable def tvO (t:zaP):HObj:=.var TrT (qK t)
theorem zP7 (x t:zaP) (hx:zG2 x) (ht:zG2 t) (bt:Nat):q7 Tryz.prog 57 [.av (qD Tryz.prog 49) (qK x),.av .ptr (.ptr bt TrT [])] [(bt,tvO t)]
  fun r H'=>r=.av .bool (.b (zDY x t))∧H'=[(bt,tvO t)]:=by
 refine zov Tryz.func57 cf0 fun imm0 w0=>?_
 (simp (maxSteps:=2000000) (disch:=first|omega|assumption) [zz,tvO])
 refine qL (zFS x t hx ht) rfl rfl (by simp) (by simp[qS,TV.er]) ?_
 (simp (maxSteps:=2000000) (disch:=first|omega|assumption) [zz,Tryz.f57])
theorem zR6 (ts:List zaP) (t:zaP) (hts:∀x∈ts,zG2 x) (ht:zG2 t) (b bt cap:Nat) (j:List AV) (hj:JK j) (hb:b≠bt) (hcap:ts.length+j.length=cap) (hn:ts.length≤1000) :
  q7 Tryz.prog 119 [.av (.slice 49) (.msl b 49 0 ts.length cap),.av .func (zN2 bt)] [(b,KR cap ts j),(bt,tvO t)]
   fun r H'=>r=.av (.int .i64) (.i .i64 (J7 (fun x=>zDY x t) ts))∧H'=[(b,KR cap ts j),(bt,tvO t)]:=by
 refine zov Tryz.func119 cf0 fun imm0 w0=>?_
 (simp (maxSteps:=2000000) (disch:=first|omega|assumption) [zz])
 refine AT.loop' (α:=Nat) (fun k=>St.of [(0,.av (.slice 49) (.msl b 49 0 ts.length cap)),(1,.av .func (zN2 bt)),(7,.av (.int .i64) (.i .i64 ts.length)),(8,.av (.int .i64) (.i .i64 k))] [] (fun _=>0) [(b,KR cap ts j),(bt,tvO t)])
  (fun k=>k≤ts.length∧∀x∈ts.take k,zDY x t=false) (fun k=>ts.length-k) 0 ?_ ?_ ?_
 ·apply Le.of<;>simp[qU,qG,qO,qH,qP,qK,qF,qI,qJ,qN,zX]<;>try omega
 ·simp
 rintro k ⟨hk',hpk⟩ KL hN hE
 refine qM (cf:=cf0) laid mixed _ _ _ (by kernel_rfl) ?_
 by_cases hlt:k<ts.length
 ·have hlt':(k:Int)<ts.length:=by omega
  have hg:=zNZ ts j k hlt
  (simp (maxSteps:=2000000) (disch:=first|omega|assumption) [zz,hlt',KR,hg])
  (repeat with_reducible refine om ?_)
  refine qE (R:=fun r' H'=>r'=.av .bool (.b (zDY ts[k] t))∧H'=[(bt,tvO t)]) [(bt,tvO t)] [(b,KR cap ts j)] (List.Perm.swap _ _ _) rfl (by simp[qQ]) (by simp) ?_ ?_
  ·have:=zP7 ts[k] t (hts _ (List.getElem_mem hlt)) ht bt
   simpa[TV.er,AV.er,tvO]using this
  rintro r' H' ⟨rfl,rfl⟩ _
  refine⟨[(b,KR cap ts j),(bt,tvO t)],HSub.of_perm (List.Perm.swap _ _ _),?_⟩
  by_cases hp:zDY ts[k] t=true
  ·(simp (maxSteps:=2000000) (disch:=first|omega|assumption) [zz,hp])
   refine hE _ _ (by simp) ?_
   (simp (maxSteps:=2000000) (disch:=first|omega|assumption) [zz,Tryz.f119,uL hlt hpk hp,zK9 hj,tvO])
  ·(simp (maxSteps:=2000000) (disch:=first|omega|assumption) [zz,hp])
   refine hN _ (k+1) ?_ ⟨by omega,by rw[Z2 hlt];exact⟨hpk,by simpa using hp⟩⟩ (by omega)
   apply Le.of<;>simp[qU,qG,qO,qH,qP,qK,qF,qI,qJ,qN,zX]<;>try omega
 ·have hlt':¬(k:Int)<ts.length:=by omega
  (simp (maxSteps:=2000000) (disch:=first|omega|assumption) [zz,hlt'])
  refine hE _ _ (by simp) ?_
  rw[List.take_of_length_le (by omega)]at hpk
  (simp (maxSteps:=2000000) (disch:=first|omega|assumption) [zz,Tryz.f119,x9 hpk,zK9 hj,tvO])
theorem zPl (t:zaP) (bt:Nat) :
  q7 Tryz.prog 119 [.av (.slice 49) .nsl,.av .func (zN2 bt)] [(bt,tvO t)]
   fun r H'=>r=.av (.int .i64) (.i .i64 (-1))∧H'=[(bt,tvO t)]:=by
 refine zov Tryz.func119 cf0 fun imm0 w0=>?_
 (simp (maxSteps:=2000000) (disch:=first|omega|assumption) [zz])
 refine AT.loop' (α:=Nat) (fun k=>St.of [(0,.av (.slice 49) .nsl),(1,.av .func (zN2 bt)),(7,.av (.int .i64) (.i .i64 0)),(8,.av (.int .i64) (.i .i64 0))] [] (fun _=>0) [(bt,tvO t)])
  (fun k=>True) (fun k=>0) 0 ?_ ?_ ?_
 ·apply Le.of<;>simp[qU,qG,qO,qH,qP,qK,qF,qI,qJ,qN,zX]<;>try omega
 ·simp
 rintro k-KL hN hE
 refine qM (cf:=cf0) laid mixed _ _ _ (by kernel_rfl) ?_
 (simp (maxSteps:=2000000) (disch:=first|omega|assumption) [zz])
 refine hE _ _ (by simp) ?_
 (simp (maxSteps:=2000000) (disch:=first|omega|assumption) [zz,Tryz.f119,tvO])
def kp (t:zaP) (ts:List zaP):List zaP:=ts.filter fun x=>!zDY x t
theorem zSt (t:zaP) (ts:List zaP):(kp t ts).length≤ts.length:=List.length_filter_le _ _
theorem zQ4 {t:zaP} {ts:List zaP} (h:∀x∈ts,zDY x t=false):kp t ts=ts:=by
 unfold kp
 rw[List.filter_eq_self]
 intro x hx;simp[h x hx]
theorem zLj {t:zaP} {ts:List zaP} {k:Nat} (h:k<ts.length):kp t (ts.take (k+1))=if zDY ts[k] t=true then kp t (ts.take k) else kp t (ts.take k)++[ts[k]]:=by
 unfold kp
 rw[List.take_succ_eq_append_getElem h,List.filter_append]
 by_cases hs:zDY ts[k] t=true<;>simp[hs]
set_option maxHeartbeats 4000000 in
theorem zRa (ts:List zaP) (t:zaP) (hts:∀x∈ts,zG2 x) (ht:zG2 t) (b bt cap:Nat) (j:List AV) (hj:JK j) (hb:b≠bt) (hcap:ts.length+j.length=cap) (hn:ts.length≤1000) :
  q7 Tryz.prog 56 [.av (.slice 49) (.msl b 49 0 ts.length cap),.av .func (zN2 bt)] [(b,KR cap ts j),(bt,tvO t)]
   fun r H'=>∃j',JK j'∧(kp t ts).length+j'.length=cap∧r=.av (.slice 49) (.msl b 49 0 (kp t ts).length cap)∧H'=[(b,KR cap (kp t ts) j'),(bt,tvO t)]:=by
 have hb':¬bt=b:=fun e=>hb e.symm
 refine zov Tryz.func56 cf0 fun imm0 w0=>?_
 (simp (maxSteps:=2000000) (disch:=first|omega|assumption) [zz])
 refine jP (R:=fun r' H'=>r'=.av (.int .i64) (.i .i64 (J7 (fun x=>zDY x t) ts))∧H'=[(b,KR cap ts j),(bt,tvO t)]) rfl (by simp[qQ]) (by simp) ?_ ?_
 ·have:=zR6 ts t hts ht b bt cap j hj hb hcap hn
  simpa[TV.er,AV.er,tvO,zN2,zK9 hj]using this
 rintro r' H' ⟨rfl,rfl⟩
 rcases YV (fun x=>zDY x t) ts with⟨he,hall⟩|⟨i,hi,he,hsame,hpre⟩
 ·(simp (maxSteps:=2000000) (disch:=first|omega|assumption) [zz,he,Tryz.f56,zK9 hj,tvO,zQ4 hall])
  exact⟨j,hj,hcap,rfl⟩
 ·have hk0:kp t (ts.take i)=ts.take i:=zQ4 hpre
  have hk1:kp t (ts.take (i+1))=ts.take i:=by rw[zLj hi,if_pos hsame,hk0]
  have hne:¬(i:Int)=-1:=by omega
  have hsplit:trs ts++j=trs (ts.take i)++(qK ts[i]::([]++(trs (ts.drop (i+1))++j))):=by
   have:ts=ts.take i++ts[i]::ts.drop (i+1):=by simp
   conv=>lhs;rw[this]
   simp only[trs,List.map_append,List.map_cons,List.nil_append,List.append_assoc,List.cons_append]
  (simp (maxSteps:=2000000) (disch:=first|omega|assumption) [zz,he,hne])
  refine AT.loop' (α:=Nat × AV × List AV) (fun p=>St.of [(0,.av (.slice 49) (.msl b 49 0 ts.length cap)),(1,.av .func (zN2 bt)),(5,.av (.int .i64) (.i .i64 (kp t (ts.take p.1)).length)),(6,.av (.int .i64) (.i .i64 p.1))] [] (fun _=>0)
    [(b,.var (.arr cap 49) (.agg (trs (kp t (ts.take p.1))++(p.2.1::(p.2.2++(trs (ts.drop p.1)++j)))))),(bt,tvO t)])
   (fun p=>p.1≤ts.length∧JK (p.2.1::p.2.2)∧(kp t (ts.take p.1)).length+(p.2.2.length+1)=p.1) (fun p=>ts.length-p.1) (i+1,qK ts[i],[]) ?_ ?_ ?_
  ·have hli:(ts.take i).length=i:=by rw[List.length_take];omega
   apply Le.of<;>simp[qU,qG,qO,qH,qP,qK,qF,qI,qJ,qN,hk1,hsplit,KR,hli]<;>try omega
  ·refine⟨by simp only;omega,by simp[JK,AV.erks_eq],?_⟩
   simp only[hk1,List.length_take,List.length_nil];omega
  rintro⟨k,m,mid⟩ ⟨hk,hjm,hlen⟩ KL hN hE
  simp only at hk hjm hlen
  obtain⟨F,hF⟩:∃F,F=kp t (ts.take k):=⟨_,rfl⟩
  rw[←hF]at hlen
  have hnx:=fun h:k<ts.length=>zLj (t:=t) h
  simp only[←hF]at hnx ⊢
  refine qM (cf:=cf0) laid mixed _ _ _ (by kernel_rfl) ?_
  by_cases hlt:k<ts.length
  ·have hlt':(k:Int)<ts.length:=by omega
   have hnx:=hnx hlt
   have hd:trs (ts.drop k)=qK ts[k]::trs (ts.drop (k+1)):=by
    rw[List.drop_eq_getElem_cons hlt];rfl
   have hg:(trs F++(m::(mid++(trs (ts.drop k)++j))))[k]?=some (qK ts[k]):=by
    rw[hd,List.getElem?_append_right (by simp;omega)]
    have:k-(trs F).length=mid.length+1:=by simp;omega
    rw[this,List.getElem?_cons_succ,List.getElem?_append_right (Nat.le_refl _)]
    simp
   have hgi:(trs F++(m::(mid++(trs (ts.drop k)++j))))[F.length]?=some m:=by
    rw[List.getElem?_append_right (by simp)];simp
   have hst:=zgc (trs F) (mid++(trs (ts.drop k)++j)) m (qK ts[k])
   rw[zL1]at hst
   obtain⟨x,hx⟩:∃x,x=ts[k]:=⟨_,rfl⟩
   have hxo:zG2 x:=by rw[hx];exact hts _ (List.getElem_mem hlt)
   rw[←hx]at hg hst hd hnx
   (simp (maxSteps:=2000000) (disch:=first|omega|assumption) [zz,hlt',hlt,hg])
   (repeat with_reducible refine om ?_)
   refine qE (R:=fun r' H'=>r'=.av .bool (.b (zDY x t))∧H'=[(bt,tvO t)]) [(bt,tvO t)] _ (List.Perm.swap _ _ _) rfl (by simp[qQ]) (by simp) ?_ ?_
   ·have:=zP7 x t hxo ht bt
    simpa[TV.er,AV.er,tvO]using this
   rintro r' H' ⟨rfl,rfl⟩ _
   refine⟨_,HSub.of_perm (List.Perm.swap _ _ _),?_⟩
   by_cases hp:zDY x t=true
   ·rw[if_pos hp]at hnx
    (simp (maxSteps:=2000000) (disch:=first|omega|assumption) [zz,hp])
    refine hN _ (k+1,m,mid++[qK x]) ?_ ⟨by simp only;omega,?_,?_⟩ (by simp only;omega)
    ·apply Le.of<;>simp[qU,qG,qO,qH,qP,qK,qF,qI,qJ,qN,hnx,hd]<;>try omega
    ·simp only;rw[←List.cons_append];exact hjm.app (by simp[JK,AV.erks_eq])
    ·simp only[hnx,List.length_append,List.length_cons,List.length_nil];omega
   ·rw[if_neg hp]at hnx
    (simp (maxSteps:=2000000) (disch:=first|omega|assumption) [zz,hp,hgi,hst])
    (repeat with_reducible refine om ?_)
    obtain⟨m',mid',hmm⟩:∃m' mid',mid++[qK x]=m'::mid':=by cases mid with
     | nil=>exact⟨_,_,rfl⟩
     | cons a r=>exact⟨_,_,rfl⟩
    have hmm':mid++(qK x::(trs (ts.drop (k+1))++j))=m'::(mid'++(trs (ts.drop (k+1))++j)):=by
     have:=congrArg (·++(trs (ts.drop (k+1))++j)) hmm
     simpa using this
    have hml:mid'.length=mid.length:=by
     have:=congrArg List.length hmm
     simpa using this.symm
    have hjm':JK (m'::mid'):=by
     rw[←hmm]
     have h1:=hjm.drop 1
     exact JK.app (by simpa using h1) (by simp[JK,AV.erks_eq])
    have heq:trs F++(qK x::(mid++(trs (ts.drop k)++j)))=trs (F++[x])++(m'::(mid'++(trs (ts.drop (k+1))++j))):=by
     rw[hd,List.cons_append,hmm',zOW,List.append_assoc];rfl
    refine hN _ (k+1,m',mid') ?_ ⟨by simp only;omega,hjm',?_⟩ (by simp only;omega)
    ·apply Le.of<;>simp[qU,qG,hnx,heq]<;>try omega
    ·simp only[hnx,List.length_append,List.length_cons,List.length_nil];omega
  ·have hlt':¬(k:Int)<ts.length:=by omega
   have hkn:k=ts.length:=by omega
   have hFt:F=kp t ts:=by rw[hF,hkn,List.take_length]
   subst hkn
   have hcf:¬cap=F.length:=by omega
   have hdr:ts.drop ts.length=[]:=by simp
   have h1:F.length≤ts.length:=by omega
   have h2:ts.length≤cap:=by omega
   have hclr:(trs F++(m::(mid++(trs []++j)))).take F.length++(List.replicate (ts.length-F.length) zKs++(trs F++(m::(mid++(trs []++j)))).drop ts.length)=trs F++(List.replicate (ts.length-F.length) zKs++j):=by
    have e1:(trs F++(m::(mid++(trs []++j)))).take F.length=trs F:=by
     rw[List.take_append_of_le_length (by simp)];exact List.take_of_length_le (by simp)
    have e2:(trs F++(m::(mid++(trs []++j)))).drop ts.length=j:=by
     have e3:ts.length=(trs F).length+(mid.length+1):=by simp;omega
     rw[e3,List.drop_append]
     have:(trs F).length+(mid.length+1)-(trs F).length=mid.length+1:=by omega
     rw[this,List.drop_of_length_le (by omega),List.drop_succ_cons]
     simp[trs]
    rw[e1,e2]
   have hz:JK (List.replicate (ts.length-F.length) zKs):=JK.zeros _
   have hlr:(List.replicate (ts.length-F.length) zKs).length=ts.length-F.length:=List.length_replicate
   have her:=(JK.app (JK.trs F) (hz.app hj))
   unfold JK at her
   simp only[zKs]at hclr her
   (simp (maxSteps:=2000000) (disch:=first|omega|assumption) [zz,hlt',hdr,hcf])
   refine hE _ _ (by simp) ?_
   (simp (maxSteps:=2000000) (disch:=first|omega|assumption) [zz,hcf,hclr,hdr,-List.reduceReplicate])
   (repeat with_reducible refine om ?_)
   (simp (maxSteps:=2000000) (disch:=first|omega|assumption) [zz,Tryz.f56,-List.reduceReplicate,hclr,her])
   refine⟨List.replicate (ts.length-F.length) zKs++j,hz.app hj,?_,by rw[hFt],?_,?_⟩
   ·rw[List.length_append,hlr,←hFt];omega
   ·rw[←hFt];rfl
   ·simp[tvO,HObj.er_var]
theorem zPv (t:zaP) (bt:Nat) :
  q7 Tryz.prog 56 [.av (.slice 49) .nsl,.av .func (zN2 bt)] [(bt,tvO t)]
   fun r H'=>r=.av (.slice 49) .nsl∧H'=[(bt,tvO t)]:=by
 refine zov Tryz.func56 cf0 fun imm0 w0=>?_
 (simp (maxSteps:=2000000) (disch:=first|omega|assumption) [zz])
 refine jP (R:=fun r' H'=>r'=.av (.int .i64) (.i .i64 (-1))∧H'=[(bt,tvO t)]) rfl (by simp[qQ]) (by simp) ?_ ?_
 ·have:=zPl t bt
  simpa[TV.er,AV.er,tvO,zN2]using this
 rintro r' H' ⟨rfl,rfl⟩
 (simp (maxSteps:=2000000) (disch:=first|omega|assumption) [zz,Tryz.f56,tvO])
noncomputable def zLM (x:zaP):HObj:=.var (.arr 1 49) (.agg [qK x])
def zOp (x:zaP) (ts:List zaP) (r:TV) (H':q8):Prop:=∃b' cap' j',JK j'∧(ts.length+1)+j'.length=cap'∧r=.av (.slice 49) (.msl b' 49 0 (ts.length+1) cap')∧H'=[(b',KR cap' (x::ts) j')]
def zNd (x:zaP) (ts:List zaP) (r:TV) (H':q8):Prop:=∃b' cap' j',JK j'∧(ts.length+1)+j'.length=cap'∧r=.av (.slice 49) (.msl b' 49 0 (ts.length+1) cap')∧HSub [(b',KR cap' (x::ts) j')] H'
theorem zNd.to {f:FuncId} {args:List TV} {H:q8} {x:zaP} {ts:List zaP} (h:q7 Tryz.prog f args H (zNd x ts)):q7 Tryz.prog f args H (zOp x ts) :=
 h.sub fun r H' ⟨b',cap',j',h1,h2,h3,h4⟩ _=>⟨_,h4,b',cap',j',h1,h2,h3,rfl⟩
abbrev zSh:Cfg:=⟨fun _=>false,fun n=>n==4000077⟩
@[simp] theorem zTs:z8 Tryz.prog (.func 122)=true:=by kernel_rfl
@[simp] theorem zT5:zpb Tryz.prog (.func 122)=false:=by kernel_rfl
theorem zSG:zsg Tryz.prog 49 (.func 122):=⟨_,55,55,Tryz.func122,by kernel_rfl,by kernel_rfl,by kernel_rfl,by kernel_rfl,by simp⟩
set_option maxHeartbeats 4000000 in
theorem zPj (x:zaP) (bv:Nat) :
  q7 Tryz.prog 59 [.av (.slice 49) .nsl,.av (.int .i64) (.i .i64 0),.av (.slice 49) (.msl bv 49 0 1 1)] [(bv,zLM x)] (zOp x []):=by
 refine zNd.to ?_
 refine zov Tryz.func59 zSh fun imm0 w0=>?_
 (simp (maxSteps:=2000000) (disch:=first|omega|assumption) [zz,-List.reduceReplicate,zLM])
 intro b' cap' hb' hc
 have hz:=JK.zeros (cap'-1)
 unfold JK zKs at hz
 (simp (maxSteps:=2000000) (disch:=first|omega|assumption) [zz,-List.reduceReplicate,Tryz.f59,zNd,hz])
 exact⟨b',cap',List.replicate (cap'-1) zKs,JK.zeros _,by simp;omega,⟨rfl,rfl⟩,HSub.of_sub (by simp[KR,trs,zKs,-List.reduceReplicate])⟩
set_option maxHeartbeats 8000000 in
theorem zQn (x:zaP) (ts:List zaP) (b bv cap:Nat) (j:List AV) (hj:JK j) (hb:b≠bv) (hcap:ts.length+j.length=cap) (hn:ts.length≤1000) :
  q7 Tryz.prog 59 [.av (.slice 49) (.msl b 49 0 ts.length cap),.av (.int .i64) (.i .i64 0),.av (.slice 49) (.msl bv 49 0 1 1)] [(b,KR cap ts j),(bv,zLM x)] (zOp x ts):=by
 have hb':¬bv=b:=fun e=>hb e.symm
 refine zNd.to ?_
 refine zov Tryz.func59 zSh fun imm0 w0=>?_
 rcases Nat.eq_zero_or_pos ts.length with h0|h0
 ·have:ts=[]:=List.eq_nil_of_length_eq_zero h0
  subst this
  have hjl:j.length=cap:=by simpa using hcap
  (simp (maxSteps:=2000000) (disch:=first|omega|assumption) [zz,-List.reduceReplicate,zLM,KR,trs,hb,hb'])
  refine⟨fun hc=>?_,fun hc b' cap' hn' hn2 hc'=>?_⟩
  ·have hj1:=hj.drop 1
   unfold JK at hj1
   rw[List.drop_one]at hj1
   (simp (maxSteps:=2000000) (disch:=first|omega|assumption) [zz,-List.reduceReplicate,Tryz.f59,zNd,hj1])
   exact⟨b,cap,j.drop 1,hj.drop 1,by simp;omega,⟨rfl,rfl⟩,HSub.of_sub (by simp[KR,trs])⟩
  ·have hz:=JK.zeros (cap'-1)
   unfold JK zKs at hz
   (simp (maxSteps:=2000000) (disch:=first|omega|assumption) [zz,-List.reduceReplicate,Tryz.f59,zNd,hz])
   exact⟨b',cap',List.replicate (cap'-1) zKs,JK.zeros _,by simp;omega,⟨rfl,rfl⟩,HSub.of_sub (by simp[KR,trs,zKs,-List.reduceReplicate])⟩
 have hne:¬(0:Int)=ts.length:=by omega
 by_cases hg:cap<ts.length+1
 ·have hg':(cap:Int)<ts.length+1:=by omega
  have htk:(trs ts++j).take ts.length=trs ts:=by rw[List.take_append_of_le_length (by simp)];exact List.take_of_length_le (by simp)
  (simp (maxSteps:=2000000) (disch:=first|omega|assumption) [zz,-List.reduceReplicate,zLM,KR,hne,hg,hg',hb,hb'])
  refine⟨by omega,⟨by omega,by omega⟩,fun b' cap' hn1 hn2 hc=>?_⟩
  have hc1:¬cap'=1:=by omega
  (simp (maxSteps:=2000000) (disch:=first|omega|assumption) [zz,-List.reduceReplicate,hn1,hn2,hb,hb',hc,htk,hc1])
  (repeat with_reducible refine om ?_)
  (simp (maxSteps:=2000000) (disch:=first|omega|assumption) [zz,-List.reduceReplicate,Tryz.f59,zNd])
  have e1:List.drop (1+ts.length) (qK x::List.replicate (cap'-1) zKs)=List.replicate (cap'-1-ts.length) zKs:=by
   rw[Nat.add_comm,List.drop_succ_cons,List.drop_replicate]
  have e2:=JK.zeros (cap'-1-ts.length)
  unfold JK at e2
  refine⟨b',cap',List.replicate (cap'-1-ts.length) zKs,JK.zeros _,by simp;omega,⟨rfl,rfl⟩,HSub.of_sub ?_⟩
  show List.Sublist _ ((b',HObj.var (TyD.arr cap' 49) (AV.agg (qK x::AV.erks (trs ts++List.drop (1+ts.length) (qK x::List.replicate (cap'-1) zKs)))))::_)
  rw[e1,uC,zLe,e2]
  exact(List.nil_sublist _).cons_cons _
 ·have hg':¬(cap:Int)<ts.length+1:=by omega
  have hc1:¬cap=1:=by omega
  have hc0:0<cap:=by omega
  have hmin:min (ts.length+1) ts.length=ts.length:=by omega
  have htk:(trs ts++j).take ts.length=trs ts:=by rw[List.take_append_of_le_length (by simp)];exact List.take_of_length_le (by simp)
  (simp (maxSteps:=2000000) (disch:=first|omega|assumption) [zz,-List.reduceReplicate,zLM,KR,hne,hg,hg',hb,hb',hc1,ovV,zSG,hc0,hmin,htk])
  (repeat with_reducible refine om ?_)
  (simp (maxSteps:=2000000) (disch:=first|omega|assumption) [zz,-List.reduceReplicate,Tryz.f59,zNd])
  have e1:(List.take 1 (trs ts++j)++(trs ts++List.drop (1+ts.length) (trs ts++j))).tail=trs ts++j.drop 1:=by
   cases ts with
   | nil=>simp at h0
   | cons a r =>
    have e3:List.drop (1+(a::r).length) (trs (a::r)++j)=j.drop 1:=by
     rw[List.drop_append,List.drop_of_length_le (by simp)]
     simp[trs]
    rw[e3]
    rfl
  have e2:=hj.drop 1
  unfold JK at e2
  refine⟨b,cap,j.drop 1,hj.drop 1,by simp;omega,⟨rfl,rfl⟩,HSub.of_sub ?_⟩
  rw[e1,uC,zLe,e2]
  exact(List.nil_sublist _).cons_cons _
end Go.Proofs.YtcioeonlclpacaaGreatDoor
end
