/- A key's row of traces: found, taken out, put in front. No condition. -/
import Derived.Test.YtognnffjdckalaaGreatDoorP25aToJK0
set_option linter.unusedSimpArgs false
set_option linter.unusedVariables false
set_option linter.unusedSectionVars false
set_option maxHeartbeats 64000000
set_option maxRecDepth 100000
namespace Go.Proofs.YtognnffjdckalaaGreatDoor
open Go Go.Ab
open Classical
section
variable [Sel]
def trs (l:List qD):List AV:=l.map q5
@[simp] theorem XN (l:List qD):(trs l).length=l.length:=by simp[trs]
@[simp] theorem XT (l:List qD):AV.ers (trs l)=trs l:=by simp[trs,AV.ers_eq,Function.comp_def]
@[simp] theorem p7 (l:List qD):AV.erks (trs l)=trs l:=by simp[trs,AV.erks_eq,Function.comp_def]
theorem yM (a b:List qD):trs (a++b)=trs a++trs b:=by simp[trs]
theorem uB (l:List qD) (k:Nat) (h:k<l.length):(trs l)[k]?=some (q5 l[k]):=by simp[trs,List.getElem?_eq_getElem h]
theorem zgb (l:List qD) (j:List AV) (k:Nat) (h:k<l.length):(trs l++j)[k]?=some (q5 l[k]):=by
 rw[List.getElem?_append_left (by simpa using h),uB l k h]
theorem JK.trs (l:List qD):JK (trs l):=p7 l
def XP:AV:=.agg [.agg (List.replicate 32 (.i .u8 0)),.sl .full [],.sl .full []]
theorem JK.zeros (n:Nat):JK (List.replicate n XP):=by
 unfold JK;rw[AV.erks_eq,List.map_replicate]
 congr 1
noncomputable def k7 (cap:Nat) (ts:List qD) (j:List AV):HObj:=.var (.arr cap 56) (.agg (trs ts++j))
theorem YW {cap:Nat} {ts:List qD} {j:List AV} (h:JK j):(k7 cap ts j).er=k7 cap ts j:=by
 simp only[k7,HObj.er_var,AV.erk,K8,p7]
 rw[show AV.erks j=j from h]
abbrev TrT:TyD:=.struct [53,43,54]
noncomputable abbrev zet (bt:Nat):AV:=.fn 101 [.ptr bt TrT []]
noncomputable def tvO (t:qD):HObj:=.var TrT (q5 t)
theorem zjg (x t:qD) (hx:uN x) (ht:uN t) (bt:Nat):q6 Tryz.prog 101 [.av (q8 Tryz.prog 56) (q5 x),.av .ptr (.ptr bt TrT [])] [(bt,tvO t)]
  fun r H'=>r=.av .bool (.b (wT x t))/\H'=[(bt,tvO t)]:=by
 refine zov Tryz.func101 cf0 fun imm0 w0=>?_
 simp (disch:=omega) [zz,tvO]
 refine YE (zoY x t hx ht) rfl rfl (by simp) (by simp[q9,TV.er]) ?_
 simp (disch:=omega) [zz,Tryz.f101]
theorem zmj (ts:List qD) (t:qD) (hts:∀x∈ts,uN x) (ht:uN t) (b bt cap:Nat) (j:List AV) (hj:JK j) (hb:b≠bt) (hcap:ts.length+j.length=cap) (hn:ts.length<=1000) :
  q6 Tryz.prog 153 [.av (.slice 56) (.msl b 56 0 ts.length cap),.av .func (zet bt)] [(b,k7 cap ts j),(bt,tvO t)]
   fun r H'=>r=.av (.int .i64) (.i .i64 (VG (fun x=>wT x t) ts))/\H'=[(b,k7 cap ts j),(bt,tvO t)]:=by
 refine zov Tryz.func153 cf0 fun imm0 w0=>?_
 simp (disch:=omega) [zz]
 refine AT.loop' (α:=Nat) (fun k=>St.of [(0,.av (.slice 56) (.msl b 56 0 ts.length cap)),(1,.av .func (zet bt)),(7,.av (.int .i64) (.i .i64 ts.length)),(8,.av (.int .i64) (.i .i64 k))] [] (fun _=>0) [(b,k7 cap ts j),(bt,tvO t)])
  (fun k=>k<=ts.length/\∀x∈ts.take k,wT x t=false) (fun k=>ts.length-k) 0 ?_ ?_ ?_
 ·apply Le.of<;>simp[le9,jF]<;>try omega
 ·simp
 rintro k ⟨hk',hpk⟩ KL hN hE
 refine zrd cf0 ?_
 by_cases hlt:k<ts.length
 ·have hlt':(k:Int)<ts.length:=by omega
  have hg:=zgb ts j k hlt
  simp (disch:=omega) [zz,hlt',k7,hg]
  (repeat with_reducible refine om ?_)
  refine qM (R:=fun r' H'=>r'=.av .bool (.b (wT ts[k] t))/\H'=[(bt,tvO t)]) [(bt,tvO t)] [(b,k7 cap ts j)] (List.Perm.swap _ _ _) rfl (by simp[qH]) (by simp) ?_ ?_
  ·have:=zjg ts[k] t (hts _ (List.getElem_mem hlt)) ht bt
   simpa[TV.er,AV.er,tvO]using this
  rintro r' H' ⟨rfl,rfl⟩ _
  refine⟨[(b,k7 cap ts j),(bt,tvO t)],HSub.of_perm (List.Perm.swap _ _ _),?_⟩
  by_cases hp:wT ts[k] t=true
  ·simp (disch:=omega) [zz,hp]
   refine hE _ _ (by simp) ?_
   simp (disch:=omega) [zz,Tryz.f153,zcx hlt hpk hp,YW hj,tvO]
  ·simp (disch:=omega) [zz,hp]
   refine hN _ (k+1) ?_ ⟨by omega,by rw[xJ hlt];exact⟨hpk,by simpa using hp⟩⟩ (by omega)
   apply Le.of<;>simp[le9,jF]<;>try omega
 ·have hlt':¬(k:Int)<ts.length:=by omega
  simp (disch:=omega) [zz,hlt']
  refine hE _ _ (by simp) ?_
  rw[List.take_of_length_le (by omega)]at hpk
  simp (disch:=omega) [zz,Tryz.f153,zaX hpk,YW hj,tvO]
theorem zl4 (t:qD) (bt:Nat) :
  q6 Tryz.prog 153 [.av (.slice 56) .nsl,.av .func (zet bt)] [(bt,tvO t)]
   fun r H'=>r=.av (.int .i64) (.i .i64 (-1))/\H'=[(bt,tvO t)]:=by
 refine zov Tryz.func153 cf0 fun imm0 w0=>?_
 simp (disch:=omega) [zz]
 refine AT.loop' (α:=Nat) (fun k=>St.of [(0,.av (.slice 56) .nsl),(1,.av .func (zet bt)),(7,.av (.int .i64) (.i .i64 0)),(8,.av (.int .i64) (.i .i64 0))] [] (fun _=>0) [(bt,tvO t)])
  (fun k=>True) (fun k=>0) 0 ?_ ?_ ?_
 ·apply Le.of<;>simp[le9,jF]<;>try omega
 ·simp
 rintro k-KL hN hE
 refine zrd cf0 ?_
 simp (disch:=omega) [zz]
 refine hE _ _ (by simp) ?_
 simp (disch:=omega) [zz,Tryz.f153,tvO]
def kp (t:qD) (ts:List qD):List qD:=ts.filter fun x=>!wT x t
theorem zqH (t:qD) (ts:List qD):(kp t ts).length<=ts.length:=List.length_filter_le _ _
theorem zn8 {t:qD} {ts:List qD} (h:∀x∈ts,wT x t=false):kp t ts=ts:=by
 unfold kp
 rw[List.filter_eq_self]
 intro x hx;simp[h x hx]
theorem GZ {t:qD} {ts:List qD} {k:Nat} (h:k<ts.length):kp t (ts.take (k+1))=if wT ts[k] t=true then kp t (ts.take k) else kp t (ts.take k)++[ts[k]]:=by
 unfold kp
 rw[List.take_succ_eq_append_getElem h,List.filter_append]
 by_cases hs:wT ts[k] t=true<;>simp[hs]
theorem zog (ts:List qD) (t:qD) (hts:∀x∈ts,uN x) (ht:uN t) (b bt cap:Nat) (j:List AV) (hj:JK j) (hb:b≠bt) (hcap:ts.length+j.length=cap) (hn:ts.length<=1000) :
  q6 Tryz.prog 100 [.av (.slice 56) (.msl b 56 0 ts.length cap),.av .func (zet bt)] [(b,k7 cap ts j),(bt,tvO t)]
   fun r H'=>∃j',JK j'/\(kp t ts).length+j'.length=cap/\r=.av (.slice 56) (.msl b 56 0 (kp t ts).length cap)/\H'=[(b,k7 cap (kp t ts) j'),(bt,tvO t)]:=by
 have hb':¬bt=b:=fun e=>hb e.symm
 refine zov Tryz.func100 cf0 fun imm0 w0=>?_
 simp (disch:=omega) [zz]
 refine zF (R:=fun r' H'=>r'=.av (.int .i64) (.i .i64 (VG (fun x=>wT x t) ts))/\H'=[(b,k7 cap ts j),(bt,tvO t)]) rfl (by simp[qH]) (by simp) ?_ ?_
 ·have:=zmj ts t hts ht b bt cap j hj hb hcap hn
  simpa[TV.er,AV.er,tvO,zet,YW hj]using this
 rintro r' H' ⟨rfl,rfl⟩
 rcases zaJ (fun x=>wT x t) ts with⟨he,hall⟩|⟨i,hi,he,hsame,hpre⟩
 ·simp (disch:=omega) [zz,he,Tryz.f100,YW hj,tvO,zn8 hall]
  exact⟨j,hj,hcap,rfl⟩
 ·have hk0:kp t (ts.take i)=ts.take i:=zn8 hpre
  have hk1:kp t (ts.take (i+1))=ts.take i:=by rw[GZ hi,if_pos hsame,hk0]
  have hne:¬(i:Int)=-1:=by omega
  have hsplit:trs ts++j=trs (ts.take i)++(q5 ts[i]::([]++(trs (ts.drop (i+1))++j))):=by
   have:ts=ts.take i++ts[i]::ts.drop (i+1):=by simp
   conv=>lhs;rw[this]
   simp only[trs,List.map_append,List.map_cons,List.nil_append,List.append_assoc,List.cons_append]
  simp (disch:=omega) [zz,he,hne]
  refine AT.loop' (α:=Nat × AV × List AV) (fun p=>St.of [(0,.av (.slice 56) (.msl b 56 0 ts.length cap)),(1,.av .func (zet bt)),(5,.av (.int .i64) (.i .i64 (kp t (ts.take p.1)).length)),(6,.av (.int .i64) (.i .i64 p.1))] [] (fun _=>0)
    [(b,.var (.arr cap 56) (.agg (trs (kp t (ts.take p.1))++(p.2.1::(p.2.2++(trs (ts.drop p.1)++j)))))),(bt,tvO t)])
   (fun p=>p.1<=ts.length/\JK (p.2.1::p.2.2)/\(kp t (ts.take p.1)).length+(p.2.2.length+1)=p.1) (fun p=>ts.length-p.1) (i+1,q5 ts[i],[]) ?_ ?_ ?_
  ·have hli:(ts.take i).length=i:=by rw[List.length_take];omega
   apply Le.of<;>simp[le9,hk1,hsplit,k7,hli]<;>try omega
  ·refine⟨by simp only;omega,by simp[JK,AV.erks_eq],?_⟩
   simp only[hk1,List.length_take,List.length_nil];omega
  rintro⟨k,m,mid⟩ ⟨hk,hjm,hlen⟩ KL hN hE
  simp only at hk hjm hlen
  obtain⟨F,hF⟩:∃F,F=kp t (ts.take k):=⟨_,rfl⟩
  rw[<-hF]at hlen
  have hnx:=fun h:k<ts.length=>GZ (t:=t) h
  simp only[<-hF]at hnx |-
  refine zrd cf0 ?_
  by_cases hlt:k<ts.length
  ·have hlt':(k:Int)<ts.length:=by omega
   have hnx:=hnx hlt
   have hd:trs (ts.drop k)=q5 ts[k]::trs (ts.drop (k+1)):=by
    rw[List.drop_eq_getElem_cons hlt];rfl
   have hg:(trs F++(m::(mid++(trs (ts.drop k)++j))))[k]?=some (q5 ts[k]):=by
    rw[hd,List.getElem?_append_right (by simp;omega)]
    have:k-(trs F).length=mid.length+1:=by simp;omega
    rw[this,List.getElem?_cons_succ,List.getElem?_append_right (Nat.le_refl _)]
    simp
   have hgi:(trs F++(m::(mid++(trs (ts.drop k)++j))))[F.length]?=some m:=by
    rw[List.getElem?_append_right (by simp)];simp
   have hst:=zpG (trs F) (mid++(trs (ts.drop k)++j)) m (q5 ts[k])
   rw[XN]at hst
   obtain⟨x,hx⟩:∃x,x=ts[k]:=⟨_,rfl⟩
   have hxo:uN x:=by rw[hx];exact hts _ (List.getElem_mem hlt)
   rw[<-hx]at hg hst hd hnx
   simp (disch:=omega) [zz,hlt',hlt,hg]
   (repeat with_reducible refine om ?_)
   refine qM (R:=fun r' H'=>r'=.av .bool (.b (wT x t))/\H'=[(bt,tvO t)]) [(bt,tvO t)] _ (List.Perm.swap _ _ _) rfl (by simp[qH]) (by simp) ?_ ?_
   ·have:=zjg x t hxo ht bt
    simpa[TV.er,AV.er,tvO]using this
   rintro r' H' ⟨rfl,rfl⟩ _
   refine⟨_,HSub.of_perm (List.Perm.swap _ _ _),?_⟩
   by_cases hp:wT x t=true
   ·rw[if_pos hp]at hnx
    simp (disch:=omega) [zz,hp]
    refine hN _ (k+1,m,mid++[q5 x]) ?_ ⟨by simp only;omega,?_,?_⟩ (by simp only;omega)
    ·apply Le.of<;>simp[le9,hnx,hd]<;>try omega
    ·simp only;rw[<-List.cons_append];exact hjm.app (by simp[JK,AV.erks_eq])
    ·simp only[hnx,List.length_append,List.length_cons,List.length_nil];omega
   ·rw[if_neg hp]at hnx
    simp (disch:=omega) [zz,hp,hgi,hst]
    (repeat with_reducible refine om ?_)
    obtain⟨m',mid',hmm⟩:∃m' mid',mid++[q5 x]=m'::mid':=by cases mid with
     | nil=>exact⟨_,_,rfl⟩
     | cons a r=>exact⟨_,_,rfl⟩
    have hmm':mid++(q5 x::(trs (ts.drop (k+1))++j))=m'::(mid'++(trs (ts.drop (k+1))++j)):=by
     have:=congrArg (·++(trs (ts.drop (k+1))++j)) hmm
     simpa using this
    have hml:mid'.length=mid.length:=by
     have:=congrArg List.length hmm
     simpa using this.symm
    have hjm':JK (m'::mid'):=by
     rw[<-hmm]
     have h1:=hjm.drop 1
     exact JK.app (by simpa using h1) (by simp[JK,AV.erks_eq])
    have heq:trs F++(q5 x::(mid++(trs (ts.drop k)++j)))=trs (F++[x])++(m'::(mid'++(trs (ts.drop (k+1))++j))):=by
     rw[hd,List.cons_append,hmm',yM,List.append_assoc];rfl
    refine hN _ (k+1,m',mid') ?_ ⟨by simp only;omega,hjm',?_⟩ (by simp only;omega)
    ·apply Le.of<;>simp[k8,z1,hnx,heq]<;>try omega
    ·simp only[hnx,List.length_append,List.length_cons,List.length_nil];omega
  ·have hlt':¬(k:Int)<ts.length:=by omega
   have hkn:k=ts.length:=by omega
   have hFt:F=kp t ts:=by rw[hF,hkn,List.take_length]
   subst hkn
   have hcf:¬cap=F.length:=by omega
   have hdr:ts.drop ts.length=[]:=by simp
   have h1:F.length<=ts.length:=by omega
   have h2:ts.length<=cap:=by omega
   have hclr:(trs F++(m::(mid++(trs []++j)))).take F.length++(List.replicate (ts.length-F.length) XP++(trs F++(m::(mid++(trs []++j)))).drop ts.length)=trs F++(List.replicate (ts.length-F.length) XP++j):=by
    have e1:(trs F++(m::(mid++(trs []++j)))).take F.length=trs F:=by
     rw[List.take_append_of_le_length (by simp)];exact List.take_of_length_le (by simp)
    have e2:(trs F++(m::(mid++(trs []++j)))).drop ts.length=j:=by
     have e3:ts.length=(trs F).length+(mid.length+1):=by simp;omega
     rw[e3,List.drop_append]
     have:(trs F).length+(mid.length+1)-(trs F).length=mid.length+1:=by omega
     rw[this,List.drop_of_length_le (by omega),List.drop_succ_cons]
     simp[trs]
    rw[e1,e2]
   have hz:JK (List.replicate (ts.length-F.length) XP):=JK.zeros _
   have hlr:(List.replicate (ts.length-F.length) XP).length=ts.length-F.length:=List.length_replicate
   have her:=(JK.app (JK.trs F) (hz.app hj))
   unfold JK at her
   simp only[XP]at hclr her
   simp (disch:=omega) [zz,hlt',hdr,hcf]
   refine hE _ _ (by simp) ?_
   simp (disch:=omega) [zz,hcf,hclr,hdr,-List.reduceReplicate]
   (repeat with_reducible refine om ?_)
   simp (disch:=omega) [zz,Tryz.f100,-List.reduceReplicate,hclr,her]
   refine⟨List.replicate (ts.length-F.length) XP++j,hz.app hj,?_,by rw[hFt],?_,?_⟩
   ·rw[List.length_append,hlr,<-hFt];omega
   ·rw[<-hFt];rfl
   ·simp[tvO,HObj.er_var]
theorem zkV (t:qD) (bt:Nat) :
  q6 Tryz.prog 100 [.av (.slice 56) .nsl,.av .func (zet bt)] [(bt,tvO t)]
   fun r H'=>r=.av (.slice 56) .nsl/\H'=[(bt,tvO t)]:=by
 refine zov Tryz.func100 cf0 fun imm0 w0=>?_
 simp (disch:=omega) [zz]
 refine zF (R:=fun r' H'=>r'=.av (.int .i64) (.i .i64 (-1))/\H'=[(bt,tvO t)]) rfl (by simp[qH]) (by simp) ?_ ?_
 ·have:=zl4 t bt
  simpa[TV.er,AV.er,tvO,zet]using this
 rintro r' H' ⟨rfl,rfl⟩
 simp (disch:=omega) [zz,Tryz.f100,tvO]
noncomputable def DZ (x:qD):HObj:=.var (.arr 1 56) (.agg [q5 x])
def ziq (x:qD) (ts:List qD) (r:TV) (H':q7):Prop:=∃b' cap' j',JK j'/\(ts.length+1)+j'.length=cap'/\r=.av (.slice 56) (.msl b' 56 0 (ts.length+1) cap')/\H'=[(b',k7 cap' (x::ts) j')]
def zdA (x:qD) (ts:List qD) (r:TV) (H':q7):Prop:=∃b' cap' j',JK j'/\(ts.length+1)+j'.length=cap'/\r=.av (.slice 56) (.msl b' 56 0 (ts.length+1) cap')/\HSub [(b',k7 cap' (x::ts) j')] H'
theorem zdA.to {f:FuncId} {args:List TV} {H:q7} {x:qD} {ts:List qD} (h:q6 Tryz.prog f args H (zdA x ts)):q6 Tryz.prog f args H (ziq x ts) :=
 h.sub fun r H' ⟨b',cap',j',h1,h2,h3,h4⟩ _=>⟨_,h4,b',cap',j',h1,h2,h3,rfl⟩
abbrev zqy:Cfg:=⟨fun _=>false,fun n=>n==4000077⟩
@[simp] theorem zt5:qN Tryz.prog (.func 156)=true:=by kernel_rfl
@[simp] theorem zsz:zm8 Tryz.prog (.func 156)=false:=by kernel_rfl
theorem zrI:zrZ Tryz.prog 56 (.func 156):=⟨_,36,36,Tryz.func156,by kernel_rfl,by kernel_rfl,by kernel_rfl,by kernel_rfl,by simp⟩
theorem zkt (x:qD) (bv:Nat) :
  q6 Tryz.prog 103 [.av (.slice 56) .nsl,.av (.int .i64) (.i .i64 0),.av (.slice 56) (.msl bv 56 0 1 1)] [(bv,DZ x)] (ziq x []):=by
 refine zdA.to ?_
 refine zov Tryz.func103 zqy fun imm0 w0=>?_
 simp (disch:=omega) [zz,-List.reduceReplicate,DZ]
 intro b' cap' hb' hc
 have hz:=JK.zeros (cap'-1)
 unfold JK XP at hz
 simp (disch:=omega) [zz,-List.reduceReplicate,Tryz.f103,zdA,hz]
 exact⟨b',cap',List.replicate (cap'-1) XP,JK.zeros _,by simp;omega,⟨rfl,rfl⟩,HSub.of_sub (by simp[k7,trs,XP,-List.reduceReplicate])⟩
theorem zlQ (x:qD) (ts:List qD) (b bv cap:Nat) (j:List AV) (hj:JK j) (hb:b≠bv) (hcap:ts.length+j.length=cap) (hn:ts.length<=1000) :
  q6 Tryz.prog 103 [.av (.slice 56) (.msl b 56 0 ts.length cap),.av (.int .i64) (.i .i64 0),.av (.slice 56) (.msl bv 56 0 1 1)] [(b,k7 cap ts j),(bv,DZ x)] (ziq x ts):=by
 have hb':¬bv=b:=fun e=>hb e.symm
 refine zdA.to ?_
 refine zov Tryz.func103 zqy fun imm0 w0=>?_
 rcases Nat.eq_zero_or_pos ts.length with h0|h0
 ·have:ts=[]:=List.eq_nil_of_length_eq_zero h0
  subst this
  have hjl:j.length=cap:=by simpa using hcap
  simp (disch:=omega) [zz,-List.reduceReplicate,DZ,k7,trs,hb,hb']
  refine⟨fun hc=>?_,fun hc b' cap' hn' hn2 hc'=>?_⟩
  ·have hj1:=hj.drop 1
   unfold JK at hj1
   rw[List.drop_one]at hj1
   (simp (maxSteps:=2000000) (disch:=first|omega|assumption) [zz,-List.reduceReplicate,Tryz.f103,zdA,hj1])
   exact⟨b,cap,j.drop 1,hj.drop 1,by simp;omega,⟨rfl,rfl⟩,HSub.of_sub (by simp[k7,trs])⟩
  ·have hz:=JK.zeros (cap'-1)
   unfold JK XP at hz
   (simp (maxSteps:=2000000) (disch:=first|omega|assumption) [zz,-List.reduceReplicate,Tryz.f103,zdA,hz])
   exact⟨b',cap',List.replicate (cap'-1) XP,JK.zeros _,by simp;omega,⟨rfl,rfl⟩,HSub.of_sub (by simp[k7,trs,XP,-List.reduceReplicate])⟩
 have hne:¬(0:Int)=ts.length:=by omega
 by_cases hg:cap<ts.length+1
 ·have hg':(cap:Int)<ts.length+1:=by omega
  have htk:(trs ts++j).take ts.length=trs ts:=by rw[List.take_append_of_le_length (by simp)];exact List.take_of_length_le (by simp)
  simp (disch:=omega) [zz,DZ,k7,hne,hg,hg',hb,hb']
  refine⟨by omega,⟨by omega,by omega⟩,fun b' cap' hn1 hn2 hc=>?_⟩
  have hc1:¬cap'=1:=by omega
  simp (disch:=omega) [zz,hn1,hn2,hb,hb',hc,htk,hc1]
  (repeat with_reducible refine om ?_)
  simp (disch:=omega) [zz,Tryz.f103,zdA]
  have e1:List.drop (1+ts.length) (q5 x::List.replicate (cap'-1) XP)=List.replicate (cap'-1-ts.length) XP:=by
   rw[Nat.add_comm,List.drop_succ_cons,List.drop_replicate]
  have e2:=JK.zeros (cap'-1-ts.length)
  unfold JK at e2
  refine⟨b',cap',List.replicate (cap'-1-ts.length) XP,JK.zeros _,by simp;omega,⟨rfl,rfl⟩,HSub.of_sub ?_⟩
  show List.Sublist _ ((b',HObj.var (TyD.arr cap' 56) (AV.agg (q5 x::AV.erks (trs ts++List.drop (1+ts.length) (q5 x::List.replicate (cap'-1) XP)))))::_)
  rw[e1,K8,p7,e2]
  exact(List.nil_sublist _).cons_cons _
 ·have hg':¬(cap:Int)<ts.length+1:=by omega
  have hc1:¬cap=1:=by omega
  have hc0:0<cap:=by omega
  have hmin:min (ts.length+1) ts.length=ts.length:=by omega
  have htk:(trs ts++j).take ts.length=trs ts:=by rw[List.take_append_of_le_length (by simp)];exact List.take_of_length_le (by simp)
  simp (disch:=omega) [zz,DZ,k7,hne,hg,hg',hb,hb',hc1,ovV,zrI,hc0,hmin,htk]
  (repeat with_reducible refine om ?_)
  simp (disch:=omega) [zz,Tryz.f103,zdA]
  have e1:(List.take 1 (trs ts++j)++(trs ts++List.drop (1+ts.length) (trs ts++j))).tail=trs ts++j.drop 1:=by
   cases ts with
   | nil=>simp at h0
   | cons a r =>
    have e3:List.drop (1+(a::r).length) (trs (a::r)++j)=j.drop 1:=by
     rw[List.drop_append,List.drop_of_length_le (by simp)]
     simp[trs]
    rw[e3]
    rfl
  have e2:=hj.drop 1
  unfold JK at e2
  refine⟨b,cap,j.drop 1,hj.drop 1,by simp;omega,⟨rfl,rfl⟩,HSub.of_sub ?_⟩
  rw[e1,K8,p7,e2]
  exact(List.nil_sublist _).cons_cons _
end
end Go.Proofs.YtognnffjdckalaaGreatDoor
