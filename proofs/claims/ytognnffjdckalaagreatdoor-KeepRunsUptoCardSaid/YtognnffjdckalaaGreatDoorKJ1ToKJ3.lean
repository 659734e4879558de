/- A journal: the program. No condition. -/
import Derived.Test.YtognnffjdckalaaGreatDoorKJ0ToVCa
set_option linter.unusedSimpArgs false
set_option linter.unusedVariables false
set_option linter.unusedSectionVars false
set_option maxHeartbeats 64000000
set_option maxRecDepth 100000
namespace Go.Proofs.YtognnffjdckalaaGreatDoor
open Go Go.Ab
open Classical
section
variable [Sel] [SelPow]
abbrev JnT:TyD:=.struct [25,9,4]
def jnO (B:Nat) (br:Bool):HObj:=.var JnT (.agg [.ptr B QI [],.s nmK,.b br])
noncomputable def jH (J B M:Nat) (o:Bool) (j:JV):q7:=(J,jnO B j.br)::zA B M o j.d
@[simp] theorem zr2 (B:Nat) (br:Bool):(jnO B br).er=jnO B br:=by simp[jnO,HObj.er_var,AV.erk,AV.erks]
@[simp] theorem dA (J B M:Nat) (o:Bool) (j:JV):(jH J B M o j).er=jH J B M o j:=by simp[jH,q7.er_cons]
def JnR (J B M:Nat) (j:JV) (H:q7):Prop:=∃o,H=jH J B M o j
structure JOK (J B M:Nat):Prop where
 a:M≠B
 b:J≠B
 c:J≠M
theorem zna (J B M:Nat) (hJ:JOK J B M) (o b:Bool) (j:JV):q6 Tryz.prog 69 [.av .ptr (.ptr J JnT []),.av .str (.s (nmB b))] (jH J B M o j) fun r H'=>r=.av .bool (.b (jO b j.d).isSome)/\H'=jH J B M o j:=by
 have hnm:decide (nmB b∈kB j.d)=(jO b j.d).isSome:=by
  cases h:(jO b j.d).isSome
  ·exact decide_eq_false fun e=>by have:=(zda b j.d).1 e;rw[h]at this;cases this
  ·exact decide_eq_true ((zda b j.d).2 h)
 have hct:=VE (kB j.d) (nmB b) (by have:=pU j.d;omega)
 rw[hnm]at hct
 have hje:=zr2 B j.br
 refine zov Tryz.func69 cf0 fun imm0 w0=>?_
 simp (disch:=omega) [zz,jH,jnO]
 refine dZ B M hJ.a o j.d [(J,jnO B j.br)] ?_ (by simp) ?_
 ·exact List.perm_append_comm (l₁:=[_])
 simp (disch:=omega) [zz]
 refine YE hct rfl rfl (by simp) (by simp[q9,TV.er,AV.er,AV.ers,vS]) ?_
 simp (disch:=omega) [zz,Tryz.f69]
theorem dC {s:St} {dst:Option Nat} {K:St->Prop} {args:List TV} (pre:q7) (J B M:Nat) (hJ:JOK J B M) (o b:Bool) (j:JV) (hH:s.H.Perm (pre++jH J B M o j)) (ha:args.all qH=true) (hx:q9 (args.map TV.er) [.av .ptr (.ptr J JnT []),.av .str (.s (nmB b))])
  (hk:K (({ s with H:=s.H }:St).put dst (.av .bool (.b (jO b j.d).isSome)))):kL Tryz.prog s (.av .func (.fn 69 [])) args dst K:=by
 refine qM (jH J B M o j) pre (hH.trans List.perm_append_comm) rfl ha (by simp) (R:=fun r H'=>r=.av .bool (.b (jO b j.d).isSome)/\H'=jH J B M o j) ?_ ?_
 ·rw[dA]
  exact q6.args (zna J B M hJ o b j) (by simpa using hx)
 rintro r' H' ⟨rfl,rfl⟩ _
 exact⟨s.H,HSub.of_perm (hH.trans List.perm_append_comm).symm,hk⟩
theorem JnR.of {J B M:Nat} {o:Bool} {j:JV}:JnR J B M j (jH J B M o j):=⟨o,rfl⟩
theorem JnR.of2 {J B M:Nat} {o br:Bool} {d:DV}:JnR J B M ⟨d,br⟩ ((J,.var JnT (.agg [.ptr B QI [],.s nmK,.b br]))::zA B M o d):=⟨o,rfl⟩
abbrev ztc:Cfg:=⟨fun _=>false,fun n=>n==1000003||n==2000020⟩
theorem zpi (J B M:Nat) (hJ:JOK J B M) (o:Bool) (j:JV) (hd:DOK j.d):q6 Tryz.prog 68 [.av .ptr (.ptr J JnT [])] (jH J B M o j) fun r H'=>r=.av (.int .i64) (.i .i64 (zL j.d).2)/\JnR J B M ⟨(zL j.d).1,j.br⟩ H':=by
 have hna:nmK++[46,110,101,119]=nmN:=rfl
 have hnl:nmK.length=4:=rfl
 refine zov Tryz.func68 ztc fun imm0 w0=>?_
 simp (disch:=omega) [zz,jH,jnO,hna,hnl]
 refine dC [] J B M hJ o true j (by simp[jH,jnO]) (by simp[qH]) (by simp[q9,TV.er,AV.er,nmB]) ?_
 cases hn:j.d.n with
 | none =>
  have ht:zL j.d=(j.d,0):=by unfold zL;rw[hn];rfl
  have hg:(jO true j.d).isSome=false:=by simp[jO,hn]
  simp (disch:=omega) [zz,hg,ht,Tryz.f68,JnR.of2]
 | some f =>
  have ht:zL j.d=jN j.d:=by unfold zL;rw[hn];rfl
  have hg:(jO true j.d).isSome=true:=by simp[jO,hn]
  simp (disch:=omega) [zz,hg,hna,hnl]
  refine j6.of [0,1,2,3,4,5,6,7,8,9,10] [] (by kernel_rfl) ?_
  simp (disch:=omega) [zz,hna,hnl]
  (repeat with_reducible refine om ?_)
  refine WL [(J,jnO B j.br)] B M o j.d (by simp[jnO,zA]) (zh4 B M hJ.a o j.d hd) (by simp) (by simp[qH]) (by simp[q9,TV.er,AV.er]) fun o'=>?_
  simp (disch:=omega) [zz,ht,Tryz.f68]
  exact JnR.of2
def gL:List (DV->DV × Int)->DV->DV × Int
 | [],d=>(d,0)
 | f::r,d=>if (f d).2=0 then gL r (f d).1 else f d
def PG (Hc:q7) (J B M:Nat) (br:Bool):List AV->List (DV->DV × Int)->DV->Prop
 | [],[],_=>True
 | v::vs,f::fs,d=>(∀o,VC1 v [] (Hc++jH J B M o ⟨d,br⟩) fun r H'=>r=.av (.int .i64) (.i .i64 (f d).2)/\∃o',H'=Hc++jH J B M o' ⟨(f d).1,br⟩)/\((f d).2=0->PG Hc J B M br vs fs (f d).1)
 | _,_,_=>False
def DoR (Hc:q7) (J B M:Nat) (j:JV) (H:q7):Prop:=∃o,H=Hc++jH J B M o j
theorem zg3 {b:Nat} {x:HObj}:∀ {A C:q7},b∉A.keys->jZ (A++C) b x=A++jZ C b x
 | [],C,_=>rfl
 | (k,o)::A,C,h=>by
  simp only[q7.keys,List.map_cons,List.mem_cons,not_or]at h
  have ih:=zg3 (b:=b) (x:=x) (A:=A) (C:=C) h.2
  have hk:¬k=b:=fun e=>h.1 e.symm
  simp only[List.cons_append,jZ,hk,if_false,ih]
theorem vL {b:Nat}:∀ {A C:q7},b∉A.keys->zU (A++C) b=zU C b
 | [],C,_=>rfl
 | (k,o)::A,C,h=>by
  simp only[q7.keys,List.map_cons,List.mem_cons,not_or]at h
  have ih:=vL (b:=b) (A:=A) (C:=C) h.2
  have hk:¬k=b:=fun e=>h.1 e.symm
  simp only[List.cons_append,zU,hk,if_false,ih]
theorem zex (J B M:Nat) (Hc:q7) (hHc:Hc.er=Hc) (vs:List AV) (fs:List (DV->DV × Int)) (o:Bool) (d₀:DV) (hlen:vs.length<=1000) (hD:PG Hc J B M false vs fs d₀) :
  q6 Tryz.prog 67 [.av .ptr (.ptr J JnT []),.av (.slice 62) (.sl .no vs)] (Hc++jH J B M o ⟨d₀,false⟩) fun r H'=>r=.av (.int .i64) (.i .i64 (gL fs d₀).2)/\DoR Hc J B M ⟨(gL fs d₀).1,decide ((gL fs d₀).2≠0)⟩ H':=by
 refine q6.nodup fun hnd=>?_
 have hJc:J∉Hc.keys:=fun h=>by
  rw[q7.keys,List.map_append,List.nodup_append]at hnd
  exact hnd.2.2 J h J (by simp[jH]) rfl
 refine zov Tryz.func67 cf0 fun imm0 w0=>?_
 simp (disch:=omega) [zz]
 refine AT.loop' (α:=Nat × List (DV->DV × Int) × DV × Bool) (fun x=>St.of [(0,.av .ptr (.ptr J JnT [])),(8,.av (.slice 62) (.sl .no vs)),(9,.av (.int .i64) (.i .i64 vs.length)),(10,.av (.int .i64) (.i .i64 x.1))] [] (fun _=>0) (Hc++jH J B M x.2.2.2 ⟨x.2.2.1,false⟩))
  (fun x=>x.1<=vs.length/\PG Hc J B M false (vs.drop x.1) x.2.1 x.2.2.1/\gL x.2.1 x.2.2.1=gL fs d₀) (fun x=>vs.length-x.1) (0,fs,d₀,o) ?_ ?_ ?_
 ·apply Le.of<;>simp[le9]<;>try omega
 ·exact⟨by simp,by simpa using hD,rfl⟩
 rintro⟨k,gs,d,o⟩ ⟨hk,hD,hr⟩ KL hN hE
 simp only at hk hD hr hN
 refine zrd cf0 ?_
 by_cases hlt:k<vs.length
 ·have hlt':(k:Int)<vs.length:=by omega
  obtain⟨v,hv⟩:∃v,vs[k]=v:=⟨_,rfl⟩
  have hdk:vs.drop k=v::vs.drop (k+1):=by rw[<-hv];exact List.drop_eq_getElem_cons hlt
  rw[hdk]at hD
  match gs,hD with
  | f::gs,⟨hc,hD2⟩ =>
  rw[gL]at hr
  simp (disch:=omega) [zz,hlt',hv]
  refine zjR (R:=fun r H'=>r=.av (.int .i64) (.i .i64 (f d).2)/\∃o',H'=Hc++jH J B M o' ⟨(f d).1,false⟩) (Hc++jH J B M o ⟨d,false⟩) [] (by simp) (by rw[q7.er_app,hHc,dA]) (by simp[qH]) (hc o) ?_
  rintro r' H' ⟨rfl,o',rfl⟩ _
  refine⟨_,HSub.refl _,?_⟩
  by_cases he:(f d).2=0
  ·rw[if_pos he]at hr
   simp (disch:=omega) [zz,he]
   refine hN _ (k+1,gs,(f d).1,o') ?_ ⟨by simp only;omega,hD2 he,hr⟩ (by simp only;omega)
   apply Le.of<;>simp[le9]<;>try omega
  ·rw[if_neg he]at hr
   have hg2:zU (Hc++jH J B M o' ⟨(f d).1,false⟩) J=some (.var JnT (.agg [.ptr B QI [],.s nmK,.b false])):=by rw[vL hJc];simp[jH,jnO,zU]
   have hs2:∀x,jZ (Hc++jH J B M o' ⟨(f d).1,false⟩) J x=Hc++(J,x)::zA B M o' (f d).1:=fun x=>by rw[zg3 hJc];simp[jH,jZ]
   simp (disch:=omega) [zz,he,hg2,hs2]
   refine hE _ _ (by simp) ?_
   have hde:decide (¬(gL fs d₀).2=0)=true:=by rw[<-hr];simp[he]
   simp (disch:=omega) [zz,Tryz.f67,q7.er_app,hHc,<-hr,he]
   exact⟨o',rfl⟩
 ·have hlt':¬(k:Int)<vs.length:=by omega
  have hd0:vs.drop k=[]:=List.drop_of_length_le (by omega)
  rw[hd0]at hD
  match gs,hD with
  | [],_ =>
  rw[gL]at hr
  simp (disch:=omega) [zz,hlt']
  refine hE _ _ (by simp) ?_
  simp (disch:=omega) [zz,Tryz.f67,q7.er_app,hHc,<-hr]
  exact⟨o,rfl⟩
noncomputable def YK (J:Nat):HObj:=.var .ptr (.ptr J JnT [])
def K4 (x:List UInt8):HObj:=.var .str (.s x)
@[simp] theorem zsL (J:Nat):(YK J).er=YK J:=by simp[YK,HObj.er_var,AV.erk]
@[simp] theorem zsF (x:List UInt8):(K4 x).er=K4 x:=by simp[K4,HObj.er_var,AV.erk]
noncomputable def anH (c2 c5 c3 J:Nat) (x:List UInt8):q7:=[(c2,YK J),(c5,K4 nmN),(c3,K4 x)]
noncomputable def adH (c2 c5 J:Nat) (x:List UInt8):q7:=[(c2,YK J),(c5,K4 x)]
abbrev zsX:Cfg:=⟨fun _=>false,fun n=>n==1000001||n==2000010⟩
abbrev zsS:Cfg:=⟨fun _=>false,fun n=>n==1000001||n==2000008⟩
abbrev ztm:Cfg:=⟨fun _=>false,fun n=>n==1000001||n==2000012⟩
theorem zo6 (c2 c5 c3 J B M:Nat) (hBM:M≠B) (x:List UInt8) (br o:Bool) (d:DV) (hd:DOK d) (hx:szF d.n+x.length<=1000000000000) :
  q6 Tryz.prog 126 [.av .ptr (.ptr c2 .ptr []),.av .ptr (.ptr c5 .str []),.av .ptr (.ptr c3 .str [])] (anH c2 c5 c3 J x++jH J B M o ⟨d,br⟩) fun r H'=>r=.av (.int .i64) (.i .i64 (qW true x d).2)/\DoR (anH c2 c5 c3 J x) J B M ⟨(qW true x d).1,br⟩ H':=by
 refine q6.nodup fun hnd=>?_
 simp[jH,anH,q7.keys,zA]at hnd
 refine zov Tryz.func126 zsX fun imm0 w0=>?_
 simp (disch:=omega) [zz,anH,YK,K4,jH,jnO,hnd]
 refine j6.of [0,1,2,3,4,5,6,7] [] (by kernel_rfl) ?_
 simp (disch:=omega) [zz,hnd]
 (repeat with_reducible refine om ?_)
 refine WL [(c2,YK J),(c5,K4 nmN),(c3,K4 x),(J,jnO B br)] B M o d (by simp[jnO,zA,YK,K4]) (gG B M hBM o d hd true x hx) (by simp) (by simp[qH]) (by simp[q9,TV.er,AV.er,nmB]) fun o'=>?_
 simp (disch:=omega) [zz,Tryz.f126]
 exact⟨o',rfl⟩
theorem zlI (c2 c5 c3 J B M:Nat) (hBM:M≠B) (x:List UInt8) (br o:Bool) (d:DV) (hd:DOK d) (hx:szF d.n<=1000000000000) :
  q6 Tryz.prog 127 [.av .ptr (.ptr c2 .ptr []),.av .ptr (.ptr c5 .str [])] (anH c2 c5 c3 J x++jH J B M o ⟨d,br⟩) fun r H'=>r=.av (.int .i64) (.i .i64 (jE true d).2)/\DoR (anH c2 c5 c3 J x) J B M ⟨(jE true d).1,br⟩ H':=by
 refine q6.nodup fun hnd=>?_
 simp[jH,anH,q7.keys,zA]at hnd
 refine zov Tryz.func127 zsS fun imm0 w0=>?_
 simp (disch:=omega) [zz,anH,YK,K4,jH,jnO,hnd]
 refine j6.of [0,1,2,3,4,5,6] [] (by kernel_rfl) ?_
 simp (disch:=omega) [zz,hnd]
 (repeat with_reducible refine om ?_)
 refine WL [(c2,YK J),(c5,K4 nmN),(c3,K4 x),(J,jnO B br)] B M o d (by simp[jnO,zA,YK,K4]) (zgo B M hBM o d hd true hx) (by simp) (by simp[qH]) (by simp[q9,TV.er,AV.er,nmB]) fun o'=>?_
 simp (disch:=omega) [zz,Tryz.f127]
 exact⟨o',rfl⟩
theorem zml (c2 c5 c3 J B M:Nat) (hBM:M≠B) (x:List UInt8) (br o:Bool) (d:DV) (hd:DOK d) :
  q6 Tryz.prog 128 [.av .ptr (.ptr c2 .ptr []),.av .ptr (.ptr c5 .str [])] (anH c2 c5 c3 J x++jH J B M o ⟨d,br⟩) fun r H'=>r=.av (.int .i64) (.i .i64 (jL d).2)/\DoR (anH c2 c5 c3 J x) J B M ⟨(jL d).1,br⟩ H':=by
 refine q6.nodup fun hnd=>?_
 simp[jH,anH,q7.keys,zA]at hnd
 refine zov Tryz.func128 ztm fun imm0 w0=>?_
 simp (disch:=omega) [zz,anH,YK,K4,jH,jnO,hnd]
 refine j6.of [0,1,2,3,4,5,6,7,8,9,10] [] (by kernel_rfl) ?_
 simp (disch:=omega) [zz,hnd]
 (repeat with_reducible refine om ?_)
 refine WL [(c2,YK J),(c5,K4 nmN),(c3,K4 x),(J,jnO B br)] B M o d (by simp[jnO,zA,YK,K4]) (zgY B M hBM o d hd) (by simp) (by simp[qH]) (by simp[q9,TV.er,AV.er]) fun o'=>?_
 simp (disch:=omega) [zz,Tryz.f128]
 exact⟨o',rfl⟩
abbrev ztz:Cfg:=⟨fun _=>false,fun n=>n==1000001||n==2000012⟩
abbrev zsZ:Cfg:=⟨fun _=>false,fun n=>n==1000001||n==2000010⟩
theorem zlA (c2 c5 J B M:Nat) (hBM:M≠B) (x:List UInt8) (br o:Bool) (d:DV) (hd:DOK d) (hx:szF d.m+x.length<=1000000000000) :
  q6 Tryz.prog 93 [.av .ptr (.ptr c2 .ptr []),.av .ptr (.ptr c5 .str [])] (adH c2 c5 J x++jH J B M o ⟨d,br⟩) fun r H'=>r=.av (.int .i64) (.i .i64 (qW false x d).2)/\DoR (adH c2 c5 J x) J B M ⟨(qW false x d).1,br⟩ H':=by
 refine q6.nodup fun hnd=>?_
 simp[jH,adH,q7.keys,zA]at hnd
 refine zov Tryz.func93 ztz fun imm0 w0=>?_
 simp (disch:=omega) [zz,adH,YK,K4,jH,jnO,hnd]
 refine j6.of [0,1,2,3,4,5,6,7,8,9,10] [] (by kernel_rfl) ?_
 simp (disch:=omega) [zz,hnd]
 (repeat with_reducible refine om ?_)
 refine WL [(c2,YK J),(c5,K4 x),(J,jnO B br)] B M o d (by simp[jnO,zA,YK,K4]) (gG B M hBM o d hd false x hx) (by simp) (by simp[qH]) (by simp[q9,TV.er,AV.er,nmB]) fun o'=>?_
 simp (disch:=omega) [zz,Tryz.f93]
 exact⟨o',rfl⟩
theorem zlq (c2 c5 J B M:Nat) (hBM:M≠B) (x:List UInt8) (br o:Bool) (d:DV) (hd:DOK d) (hx:szF d.m<=1000000000000) :
  q6 Tryz.prog 94 [.av .ptr (.ptr c2 .ptr [])] (adH c2 c5 J x++jH J B M o ⟨d,br⟩) fun r H'=>r=.av (.int .i64) (.i .i64 (jE false d).2)/\DoR (adH c2 c5 J x) J B M ⟨(jE false d).1,br⟩ H':=by
 refine q6.nodup fun hnd=>?_
 simp[jH,adH,q7.keys,zA]at hnd
 refine zov Tryz.func94 zsZ fun imm0 w0=>?_
 simp (disch:=omega) [zz,adH,YK,K4,jH,jnO,hnd]
 refine j6.of [0,1,2,3,4,5,6,7,8,9] [] (by kernel_rfl) ?_
 simp (disch:=omega) [zz,hnd]
 (repeat with_reducible refine om ?_)
 refine WL [(c2,YK J),(c5,K4 x),(J,jnO B br)] B M o d (by simp[jnO,zA,YK,K4]) (zgo B M hBM o d hd false hx) (by simp) (by simp[qH]) (by simp[q9,TV.er,AV.er,nmB]) fun o'=>?_
 simp (disch:=omega) [zz,Tryz.f94]
 exact⟨o',rfl⟩
theorem dK {r:DV × Int} (f:DV->DV × Int) (h:r.2=0):thn r f=f r.1:=by unfold thn;rw[if_pos h]
theorem VN {r:DV × Int} (f:DV->DV × Int) (h:¬r.2=0):thn r f=r:=by unfold thn;rw[if_neg h]
theorem zjH (a:DV × Int) (f g:DV->DV × Int):thn (thn a f) g=thn a fun d=>thn (f d) g:=by
 by_cases h:a.2=0
 ·rw[dK f h,dK (fun d=>thn (f d) g) h]
 ·rw[VN f h,VN (fun d=>thn (f d) g) h,VN g h]
theorem zpK (a:DV × Int):thn a (fun d=>(d,0))=a:=by
 by_cases h:a.2=0
 ·rw[dK _ h,<-h]
 ·rw[VN _ h]
theorem vM (f:DV->DV × Int) (r:List (DV->DV × Int)) (d:DV):gL (f::r) d=thn (f d) (gL r):=rfl
theorem zmp:gL []=fun d=>(d,0):=rfl
theorem CN (f:DV->DV × Int) (d:DV):gL [f] d=f d:=by rw[vM,zmp,zpK]
theorem zkm (x:List UInt8) (d:DV):gL [qW true x,jE true,jL] d=kC x d:=by
 rw[vM,kC,zjH]
 congr 1
 funext d1
 rw[vM]
 congr 1
 funext d2
 exact CN _ _
theorem zlc (x:List UInt8) (d:DV):gL [qW false x,jE false] d=thn (qW false x d) (jE false):=by
 rw[vM]
 congr 1
 funext d1
 exact CN _ _
theorem dE (x:List UInt8) (d:DV):szF (qW true x d).1.n<=szF d.n+x.length:=by
 unfold qW
 split
 ·simp only;omega
 ·simp only[QF,jO,if_true]
  cases d.n<;>simp[XB,szF]
theorem dD (x:List UInt8) (d:DV):szF (qW false x d).1.m<=szF d.m+x.length:=by
 unfold qW
 split
 ·simp only;omega
 ·simp only[QF,jO,Bool.false_eq_true,if_false]
  cases d.m<;>simp[XB,szF]
theorem zkl (c2 c5 c3 J B M:Nat) (hBM:M≠B) (x:List UInt8) (d:DV) (hd:DOK d) (hx:szF d.n+x.length<=1000000000000) :
  PG (anH c2 c5 c3 J x) J B M false [.fn 126 [.ptr c2 .ptr [],.ptr c5 .str [],.ptr c3 .str []],.fn 127 [.ptr c2 .ptr [],.ptr c5 .str []],.fn 128 [.ptr c2 .ptr [],.ptr c5 .str []]] [qW true x,jE true,jL] d:=by
 have hz:=dE x d
 have hd1:=JZ (b:=true) (x:=x) hd
 have hd2:=zax (b:=true) hd1
 refine⟨fun o=>⟨_,rfl,by simp,?_⟩,fun _=>⟨fun o=>⟨_,rfl,by simp,?_⟩,fun _=>⟨fun o=>⟨_,rfl,by simp,?_⟩,fun _=>trivial⟩⟩⟩
 ·exact zo6 c2 c5 c3 J B M hBM x false o d hd hx
 ·exact zlI c2 c5 c3 J B M hBM x false o _ hd1 (by omega)
 ·exact zml c2 c5 c3 J B M hBM x false o _ hd2
abbrev ztt:Cfg:=⟨fun n=>n==2||n==3||n==5,fun _=>false⟩
theorem znL (c2 c5 c3 J:Nat) (x:List UInt8):(anH c2 c5 c3 J x).er=anH c2 c5 c3 J x:=by simp[anH,q7.er_cons,q7.er_nil]
theorem zhZ (c2 c5 J:Nat) (x:List UInt8):(adH c2 c5 J x).er=adH c2 c5 J x:=by simp[adH,q7.er_cons,q7.er_nil]
theorem zos (J B M:Nat) (hJ:JOK J B M) (x:List UInt8) (o:Bool) (d:DV) (hd:DOK d) (hx:szF d.n+x.length<=1000000000000) :
  q6 Tryz.prog 71 [.av .ptr (.ptr J JnT []),.av .str (.s x)] (jH J B M o ⟨d,false⟩) fun r H'=>r=.av (.int .i64) (.i .i64 (kC x d).2)/\JnR J B M ⟨(kC x d).1,decide ((kC x d).2≠0)⟩ H':=by
 have hna:nmK++[46,110,101,119]=nmN:=rfl
 have hnl:nmK.length=4:=rfl
 refine zov Tryz.func71 ztt fun imm0 w0=>?_
 simp (disch:=omega) [zz,jH,jnO]
 intro c2 a1 a2 c3 a3 a4 a5
 have a1':¬J=c2:=fun e=>a1 e.symm
 have a3':¬c2=c3:=fun e=>a3 e.symm
 have a4':¬J=c3:=fun e=>a4 e.symm
 simp (disch:=omega) [zz,a1,a1',a3,a3',a4,a4',hna,hnl]
 intro c5 a6 a7 a8 a9
 have a6':¬c3=c5:=fun e=>a6 e.symm
 have a7':¬c2=c5:=fun e=>a7 e.symm
 have a8':¬J=c5:=fun e=>a8 e.symm
 simp (disch:=omega) [zz,a1,a1',a3,a3',a4,a4',a6,a6',a7,a7',a8,a8',hna,hnl]
 refine qM (R:=fun r H'=>r=.av (.int .i64) (.i .i64 (kC x d).2)/\DoR (anH c2 c5 c3 J x) J B M ⟨(kC x d).1,decide ((kC x d).2≠0)⟩ H') (anH c2 c5 c3 J x++jH J B M o ⟨d,false⟩) [] ?_ rfl (by simp[qH]) (by simp) ?_ ?_
 ·rw[List.append_nil]
  exact List.Perm.append_right (jH J B M o ⟨d,false⟩) (List.perm_append_comm (l₁:=[(c5,K4 nmN),(c3,K4 x)]) (l₂:=[(c2,YK J)]))
 ·have:=zex J B M _ (znL c2 c5 c3 J x) _ _ o d (by simp) (zkl c2 c5 c3 J B M hJ.a x d hd hx)
  rw[zkm]at this
  rw[q7.er_app,znL,dA]
  simpa[TV.er,AV.er,AV.ers]using this
 rintro r' H' ⟨rfl,o',rfl⟩ _
 refine⟨jH J B M o' ⟨(kC x d).1,decide ((kC x d).2≠0)⟩,HSub.of_sub (by rw[List.append_nil];exact List.sublist_append_right _ _),?_⟩
 simp (disch:=omega) [zz,Tryz.f71]
 exact⟨o',rfl⟩
theorem znW (c2 c5 J B M:Nat) (hBM:M≠B) (x:List UInt8) (d:DV) (hd:DOK d) (hx:szF d.m+x.length<=1000000000000) :
  PG (adH c2 c5 J x) J B M false [.fn 93 [.ptr c2 .ptr [],.ptr c5 .str []],.fn 94 [.ptr c2 .ptr []]] [qW false x,jE false] d:=by
 have hz:=dD x d
 have hd1:=JZ (b:=false) (x:=x) hd
 refine⟨fun o=>⟨_,rfl,by simp,?_⟩,fun _=>⟨fun o=>⟨_,rfl,by simp,?_⟩,fun _=>trivial⟩⟩
 ·exact zlA c2 c5 J B M hBM x false o d hd hx
 ·exact zlq c2 c5 J B M hBM x false o _ hd1 (by omega)
abbrev zsU:Cfg:=⟨fun n=>n==2||n==5,fun _=>false⟩
theorem zjr (J B M:Nat) (hJ:JOK J B M) (x:List UInt8) (o:Bool) (j:JV) (hd:DOK j.d) (hx:szF j.d.m+x.length<=10000000000) :
  q6 Tryz.prog 43 [.av .ptr (.ptr J JnT []),.av .str (.s x)] (jH J B M o j) fun r H'=>r=.av (.int .i64) (.i .i64 (addJ x j).2)/\JnR J B M (addJ x j).1 H':=by
 refine q6.sub (R:=fun r H'=>r=.av (.int .i64) (.i .i64 (addJ x j).2)/\∃H2,Ab.HSub H2 H'/\JnR J B M (addJ x j).1 H2) ?_ (fun r H' ⟨h1,H2,h2,h3⟩ _=>⟨H2,h2,h1,h3⟩)
 obtain⟨d,br⟩:=j
 simp only at hd hx
 have hfr:=zfu x (by omega)
 have hfl:=QD x
 refine zov Tryz.func43 zsU fun imm0 w0=>?_
 cases br with
 | true =>
  have ha:addJ x ⟨d,true⟩=(⟨d,true⟩,19):=by unfold addJ;rw[if_pos rfl]
  simp (disch:=omega) [zz,jH,jnO]
  intro c2 a1 a2
  have a1':¬J=c2:=fun e=>a1 e.symm
  simp (disch:=omega) [zz,a1,a1',ha,Tryz.f43]
  exact⟨_,HSub.of_sub (List.sublist_cons_self _ _),o,rfl⟩
 | false =>
  simp (disch:=omega) [zz,jH,jnO]
  intro c2 a1 a2
  have a1':¬J=c2:=fun e=>a1 e.symm
  simp (disch:=omega) [zz,a1,a1']
  refine zcv hfr ?_
  by_cases hl:1048576<x.length
  ·have ha:addJ x ⟨d,false⟩=(⟨d,false⟩,6):=by unfold addJ;rw[if_neg (by simp),if_pos hl]
   rw[if_pos hl,if_pos hl]
   simp (disch:=omega) [zz,a1,a1',ha]
   intro c5 a3 a4 a5
   simp (disch:=omega) [zz,a1,a1',Tryz.f43]
   exact⟨_,HSub.of_sub ((List.sublist_cons_self _ _).trans (List.sublist_cons_self _ _)),o,rfl⟩
  ·have ha:addJ x ⟨d,false⟩=(⟨(thn (qW false (frame x) d) (jE false)).1,decide ((thn (qW false (frame x) d) (jE false)).2≠0)⟩,(thn (qW false (frame x) d) (jE false)).2):=by unfold addJ;rw[if_neg (by simp),if_neg hl]
   rw[if_neg hl,if_neg hl]
   simp (disch:=omega) [zz,a1,a1',ha]
   intro c5 a3 a4 a5
   have a3':¬c2=c5:=fun e=>a3 e.symm
   have a4':¬J=c5:=fun e=>a4 e.symm
   simp (disch:=omega) [zz,a1,a1',a3,a3',a4,a4']
   refine qM (R:=fun r H'=>r=.av (.int .i64) (.i .i64 (thn (qW false (frame x) d) (jE false)).2)/\DoR (adH c2 c5 J (frame x)) J B M ⟨(thn (qW false (frame x) d) (jE false)).1,decide ((thn (qW false (frame x) d) (jE false)).2≠0)⟩ H') (adH c2 c5 J (frame x)++jH J B M o ⟨d,false⟩) [] ?_ rfl (by simp[qH]) (by simp) ?_ ?_
   ·rw[List.append_nil]
    exact List.Perm.append_right (jH J B M o ⟨d,false⟩) (List.perm_append_comm (l₁:=[(c5,K4 (frame x))]) (l₂:=[(c2,YK J)]))
   ·have:=zex J B M _ (zhZ c2 c5 J (frame x)) _ _ o d (by simp) (znW c2 c5 J B M hJ.a (frame x) d hd (by omega))
    rw[zlc]at this
    rw[q7.er_app,zhZ,dA]
    simpa[TV.er,AV.er,AV.ers]using this
   rintro r' H' ⟨rfl,o',rfl⟩ _
   refine⟨_,HSub.refl _,?_⟩
   simp (disch:=omega) [zz,Tryz.f43,q7.er_app,zhZ]
   exact⟨_,HSub.of_sub (List.sublist_append_right _ _),o',rfl⟩
theorem zok (J B M:Nat) (hJ:JOK J B M) (d:DV) (hd:DOK d):PG [] J B M false [.bm 68 [.ptr J JnT []]] [zL] d :=
 ⟨fun o=>⟨_,rfl,by simp,zpi J B M hJ o ⟨d,false⟩ hd⟩,fun _=>trivial⟩
theorem CU {s:St} {dst:Option Nat} {K:St->Prop} {args:List TV} (pre:q7) (J B M:Nat) (hJ:JOK J B M) (o:Bool) (d:DV) (hd:DOK d) (hH:s.H.Perm (pre++jH J B M o ⟨d,false⟩)) (ha:args.all qH=true)
  (hx:q9 (args.map TV.er) [.av .ptr (.ptr J JnT []),.av (.slice 62) (.sl .no [.bm 68 [.ptr J JnT []]])])
  (hk:∀o',K (({ s with H:=pre++jH J B M o' ⟨(zL d).1,decide ((zL d).2≠0)⟩ }:St).put dst (.av (.int .i64) (.i .i64 (zL d).2)))):kL Tryz.prog s (.av .func (.fn 67 [])) args dst K:=by
 refine qM (jH J B M o ⟨d,false⟩) pre (hH.trans List.perm_append_comm) rfl ha (by simp) (R:=fun r H'=>r=.av (.int .i64) (.i .i64 (zL d).2)/\DoR [] J B M ⟨(zL d).1,decide ((zL d).2≠0)⟩ H') ?_ ?_
 ·have:=zex J B M [] rfl _ _ o d (by simp) (zok J B M hJ d hd)
  rw[CN]at this
  rw[dA]
  exact q6.args this (by simpa using hx)
 rintro r' H' ⟨rfl,o',rfl⟩ _
 exact⟨_,HSub.of_perm List.perm_append_comm,hk o'⟩
theorem C3 {s:St} {dst:Option Nat} {K:St->Prop} {args:List TV} (pre:q7) (J B M:Nat) (hJ:JOK J B M) (o:Bool) (d:DV) (hd:DOK d) (x:List UInt8) (hx0:szF d.n+x.length<=1000000000000) (hH:s.H.Perm (pre++jH J B M o ⟨d,false⟩)) (ha:args.all qH=true)
  (hx:q9 (args.map TV.er) [.av .ptr (.ptr J JnT []),.av .str (.s x)])
  (hk:∀o',K (({ s with H:=pre++jH J B M o' ⟨(kC x d).1,decide ((kC x d).2≠0)⟩ }:St).put dst (.av (.int .i64) (.i .i64 (kC x d).2)))):kL Tryz.prog s (.av .func (.fn 71 [])) args dst K:=by
 refine qM (jH J B M o ⟨d,false⟩) pre (hH.trans List.perm_append_comm) rfl ha (by simp) (R:=fun r H'=>r=.av (.int .i64) (.i .i64 (kC x d).2)/\JnR J B M ⟨(kC x d).1,decide ((kC x d).2≠0)⟩ H') ?_ ?_
 ·rw[dA]
  exact q6.args (zos J B M hJ x o d hd hx0) (by simpa using hx)
 rintro r' H' ⟨rfl,o',rfl⟩ _
 exact⟨_,HSub.of_perm List.perm_append_comm,hk o'⟩
end
section
variable [Sel] [SelPow] [SelErr]
def wtD (bl:BlL) (d:Dig):Nat:=match bl.find? fun p=>decide (p.1=d)with
 | some p=>wtB p.2
 | none=>0
structure J6 (x:MV) (T:Nat) (s:wI):Prop where
 wt:wtR s.2=T+(s.1.map (wtD x.bl)).sum
 nd:s.1.Nodup
 is:∀d∈s.1,d∈x.bl.map Prod.fst
theorem UQ {l:BlL} {d:Dig} {p:Dig × List UInt8} (h:l.find? (fun p=>decide (p.1=d))=some p):p∈l/\p.1=d:=⟨List.mem_of_find?_eq_some h,by grind⟩
theorem J6.recM {x:MV} {T:Nat} {s:wI} (h:J6 x T s) (m:Made):J6 x T (recM x.bl m s):=by
 unfold Go.Proofs.YtognnffjdckalaaGreatDoor.recM
 cases hf:x.bl.find? (fun p=>decide (p.1=m.sum))with
 | none=>exact h
 | some p =>
  simp only
  by_cases hm:m.sum∈s.1
  ·simp_all
  rw[if_neg hm]
  obtain⟨h1,h2⟩:=UQ hf
  refine⟨?_,?_,?_⟩
  ·have hw:wtD x.bl m.sum=wtB p.2:=by simp_all[wtD]
   have:=h.wt
   simp only[zdT,List.map_append,List.sum_append,List.map_cons,List.map_nil,List.sum_cons,List.sum_nil,hw,this]
   grind [wtR,wtB]
  ·rw[List.nodup_append]
   refine⟨h.nd,by simp,?_⟩
   grind
  ·intro d hd
   rcases List.mem_append.1 hd with hd|hd
   ·exact h.is d hd
   grind
theorem J6.recMs {x:MV} {T:Nat}:∀(l:List Made) {s:wI},J6 x T s->J6 x T (l.foldl (fun s m=>Go.Proofs.YtognnffjdckalaaGreatDoor.recM x.bl m s) s)
 | [],_,h=>h
 | m::l,_,h=>J6.recMs l (h.recM m)
theorem J6.recT {x:MV} {T:Nat} {s:wI} (h:J6 x T s) (t:qD):J6 x (T+wtT t) (recT x.bl t s):=by
 have h2:=h.recMs t.outs
 unfold Go.Proofs.YtognnffjdckalaaGreatDoor.recT
 refine⟨?_,h2.nd,h2.is⟩
 have:=h2.wt
 grind [wtR,wtT]
theorem J6.recTs {x:MV}:∀(l:List qD) {T:Nat} {s:wI},J6 x T s->J6 x (T+xU l) (l.foldl (fun s t=>Go.Proofs.YtognnffjdckalaaGreatDoor.recT x.bl t s) s)
 | [],T,_,h=>by assumption
 | t::l,T,_,h=>by
  have:=J6.recTs l (h.recT t)
  rw[Nat.add_assoc]at this
  exact this
theorem J6.recK {x:MV} {T:Nat} {s:wI} (h:J6 x T s) (k:Dig):J6 x (T+xU (getD x.L k)) (recK x k s):=by
 have:=h.recTs (getD x.L k).reverse
 rw[zlm]at this
 exact this
theorem J6.recKs {x:MV}:∀(l:List Dig) {T:Nat} {s:wI},J6 x T s->J6 x (T+(l.map fun k=>xU (getD x.L k)).sum) (l.foldl (fun s k=>Go.Proofs.YtognnffjdckalaaGreatDoor.recK x k s) s)
 | [],T,_,h=>by simpa using h
 | k::l,T,_,h=>by
  have:=J6.recKs l (h.recK k)
  rw[Nat.add_assoc]at this
  exact this
theorem zn6 {l l':List Nat} (h:l.Perm l'):l.sum=l'.sum:=by
 grind
theorem ziU {l l':List Nat} (h:l.Sublist l'):l.sum<=l'.sum:=by
 induction h with
 | slnil=>omega
 | cons x _ ih=>grind
 | cons_cons x _ ih=>simp_all
theorem zjJ {L:DbL} (h:OKD L):((yB (L.map Prod.fst)).map fun k=>xU (getD L k)).sum=G4 L:=by
 have hp:=(y9 (L.map Prod.fst)).1.map fun k=>xU (getD L k)
 rw[zn6 hp,List.map_map,G4]
 congr 1
 refine List.map_congr_left fun p hp=>?_
 simp only[Function.comp_def]
 rw[zfR h.1 hp]
theorem zgQ (p:Dig × List UInt8) (r:BlL):∀(hd:List Dig),hd.Nodup->(hd.map (wtD (p::r))).sum<=(if p.1∈hd then wtB p.2 else 0)+((hd.filter fun d=>decide (d≠p.1)).map (wtD r)).sum
 | [],_=>by simp
 | d::hd,h=>by
  simp only[List.nodup_cons]at h
  have ih:=zgQ p r hd h.2
  by_cases hp:d=p.1
  ·simp_all[wtD]
  grind [wtD]
theorem znI:∀ {bl:BlL},(bl.map Prod.fst).Nodup->∀ {hd:List Dig},hd.Nodup->(∀d∈hd,d∈bl.map Prod.fst)->(hd.map (wtD bl)).sum<=uP bl
 | [],_,hd,_,h2=>by
  have:hd=[]:=List.eq_nil_iff_forall_not_mem.2 fun d hd'=>by simp_all
  simp_all
 | p::r,h,hd,h1,h2=>by
  simp only[List.map_cons,List.nodup_cons]at h
  have hc:=zgQ p r hd h1
  have ih:=znI h.2 (hd:=hd.filter fun d=>decide (d≠p.1)) (List.filter_sublist.nodup h1) (fun d hd'=>by
   grind)
  have e:uP (p::r)=wtB p.2+uP r:=rfl
  grind
theorem zjk (x:MV) (h:OKD x.L):J6 x (G4 x.L) (kT x):=by
 have:=J6.recKs (x:=x) (T:=0) (s:=([],[])) (yB (x.L.map Prod.fst)) ⟨rfl,List.nodup_nil,by simp⟩
 rw[zjJ h,Nat.zero_add]at this
 exact this
theorem G5 {mo N:Nat} {x:MV} (h:wW mo N x):wtR (kT x).2<=N:=by
 have hI:=zjk x h.ok
 have:=znI h.nd hI.nd hI.is
 have:=hI.wt
 have:=h.le
 omega
theorem D8 (q:Dig × List UInt8->Bool) (l:BlL):uP (l.filter q)<=uP l:=ziU (List.filter_sublist.map _)
theorem wW.only {mo N:Nat} {x:MV} (h:wW mo N x):wW mo N (XE x) :=
 ⟨h.ok,h.tr,h.row,h.rn,(List.filter_sublist.map _).nodup h.nd,fun p hp=>h.sh p (List.mem_filter.1 hp).1,by have:=D8 (fun p=>decide (p.1∈(kT x).1)) x.bl;have:=h.le;grind [XE]⟩
structure kF (N:Nat) (d:DV):Prop where
 ok:DOK d
 m:szF d.m<=N
 n:szF d.n<=N
theorem kF.up {N N':Nat} {d:DV} (h:kF N d) (hN:N<=N'):kF N' d:=⟨h.ok,Nat.le_trans h.m hN,Nat.le_trans h.n hN⟩
theorem zji (x:List UInt8) (o:Option FV):szF (some (XB x o))=szF o+x.length:=by cases o<;>simp[XB,szF]
theorem kF.append {N:Nat} {d:DV} (h:kF N d) (b:Bool) (x:List UInt8):kF (N+x.length) (qW b x d).1:=by
 refine⟨JZ h.ok,?_,?_⟩<;>unfold qW<;>split
 ·have:=h.m;grind
 ·have h1:=h.m
  cases b
  ·simp_all[zji,QF,jO]
  ·simp only[QF,if_true,w5];omega
 ·have:=h.n;grind
 ·have h1:=h.n
  cases b
  ·simp only[QF,Bool.false_eq_true,if_false,w5];omega
  simp_all[zji,QF,jO]
theorem kF.sync {N:Nat} {d:DV} (h:kF N d) (b:Bool):kF N (jE b d).1:=by
 have h1:=h.m
 have h2:=h.n
 refine⟨zax h.ok,?_,?_⟩<;>unfold jE<;>cases b<;>simp only[jO,if_true,Bool.false_eq_true,if_false]
 ·grind [szF,QF]
 ·grind [QF,w5]
 ·grind [QF,w5]
 grind [szF,QF]
theorem kF.rename {N:Nat} {d:DV} (h:kF N d):kF N (jL d).1:=by
 have h1:=h.m
 have h2:=h.n
 refine⟨zhn h.ok,?_,?_⟩<;>unfold jL
 ·grind
 grind [szF]
theorem kF.remove {N:Nat} {d:DV} (h:kF N d):kF N (jN d).1:=by
 have h1:=h.m
 have h2:=h.n
 refine⟨zaY h.ok,?_,?_⟩<;>unfold jN
 ·grind
 grind [szF]
theorem kF.tidy {N:Nat} {d:DV} (h:kF N d):kF N (zL d).1:=by
 unfold zL;split
 ·exact h.remove
 ·exact h
theorem WW {d:DV} (h:(zL d).2=0):(zL d).1.n=none/\(zL d).1.m=d.m:=by
 unfold zL at h |-
 split
 ·rename_i hs
  rw[if_pos hs]at h
  unfold jN at h |-
  grind
 simp_all
theorem kF.appendN {N:Nat} {d:DV} (h:kF N d) (hn:d.n=none) {x:List UInt8} (hx:x.length<=N):kF N (qW true x d).1:=by
 refine⟨JZ h.ok,?_,?_⟩<;>unfold qW<;>split
 ·exact h.m
 ·exact h.m
 ·exact h.n
 simp_all[QF,jO,XB,szF]
theorem kF.thn {N:Nat} {r:DV × Int} {f:DV->DV × Int} (h:kF N r.1) (hf:∀d,kF N d->kF N (f d).1):kF N (thn r f).1:=by
 grind [Go.Proofs.YtognnffjdckalaaGreatDoor.thn]
theorem kF.anew {N:Nat} {d:DV} (h:kF N d) (hn:d.n=none) {x:List UInt8} (hx:x.length<=N):kF N (kC x d).1 :=
 kF.thn (kF.thn (h.appendN hn hx) fun _ h=>h.sync true) fun _ h=>h.rename
theorem kF.crash {N:Nat} {d:DV} (h:kF N d) (ps:List Int):kF N (kP ps d):=by
 refine⟨zkA h.ok,?_,?_⟩<;>unfold kP<;>simp only
 ·cases hc:(ZI ps d.m).1 with
  | none=>simp[szF]
  | some f=>exact Nat.le_trans (vX h.ok.1 f hc).2.2 h.m
 ·cases hc:(ZI (ZI ps d.m).2 d.n).1 with
  | none=>simp[szF]
  | some f=>exact Nat.le_trans (vX h.ok.2.1 f hc).2.2 h.n
theorem kF.budget {N:Nat} {d:DV} (h:kF N d) {n:Int} (hn:n<=9223372036854775807):kF N (ZH n d):=⟨zhR h.ok hn,h.m,h.n⟩
theorem zfG (o:Option FV):(JW o).length=szF o:=by cases o<;>rfl
theorem kF.openJ {N:Nat} {d:DV} (h:kF N d):kF N (openJ d).1/\wtR (openJ d).2.2<=N:=by
 unfold Go.Proofs.YtognnffjdckalaaGreatDoor.openJ
 split
 ·rename_i ht
  obtain⟨t1,t2⟩:=WW ht
  have hd:=h.tidy
  obtain⟨s1,s2,s3⟩:=GR _ (b:=JW (zL d).1.m) (Nat.le_refl _)
  have hm:=hd.m
  rw[<-zfG]at hm
  have hw:wtR (jW (JW (zL d).1.m))<=N:=by grind [ZL]
  unfold xM
  simp only
  split
  ·refine⟨hd.anew t1 (by grind),?_⟩
   grind [wtR]
  grind
 ·exact⟨h.tidy,by simp[wtR]⟩
theorem kF.addJ {N:Nat} {j:JV} (h:kF N j.d) (r:List UInt8):kF (N+(12+r.length)) (addJ r j).1.d:=by
 unfold Go.Proofs.YtognnffjdckalaaGreatDoor.addJ
 split
 ·exact h.up (by omega)
 split
 ·exact h.up (by omega)
 ·have:=h.append false (frame r)
  rw[QD]at this
  exact kF.thn this fun _ h=>h.sync false
theorem kF.swapJ {N:Nat} {j:JV} (h:kF N j.d) {l:List (List UInt8)} (hl:wtR l<=N):kF N (swapJ l j).1.d:=by
 unfold Go.Proofs.YtognnffjdckalaaGreatDoor.swapJ
 split
 ·exact h
 split
 ·exact h
 ·show kF N (Go.Proofs.YtognnffjdckalaaGreatDoor.thn (zL j.d) (kC (qJ l))).1
  unfold Go.Proofs.YtognnffjdckalaaGreatDoor.thn
  split
  ·rename_i ht
   exact h.tidy.anew (WW ht).1 (by simp_all[ZL])
  ·exact h.tidy
theorem ZA.of {N:Nat} {k:KV} (h:ZA N k):kF N k.j.d:=⟨h.ok,h.m,h.n⟩
theorem ZA.mk' {N:Nat} {k:KV} (h:wW k.mo N k.M) (hd:kF N k.j.d) (h1:1<=k.mo) (h8:k.mo<=8):ZA N k:=⟨h,hd.ok,hd.m,hd.n,h1,h8⟩
theorem XK {N:Nat} {mo:Int} {d:DV} (h:kF N d):kF N (kQ mo d).1/\∀k,(kQ mo d).2.1=some k->ZA N k/\k.j.d=(kQ mo d).1/\k.mo=mo.toNat/\(kQ mo d).2.2=0/\k.j.br=false:=by
 obtain⟨h1,h2⟩:=h.openJ
 unfold kQ
 split
 ·simp_all
 split
 ·simp_all
 split
 ·simp_all
 ·rename_i g1 g2 g3
  refine⟨h1,fun k hk=>?_⟩
  cases hk
  refine⟨ZA.mk' ?_ h1 (by grind) (by simp_all),rfl,rfl,rfl,rfl⟩
  have:=wW.loads (mo:=mo.toNat) (by omega) wW.nil (l:=(Go.Proofs.YtognnffjdckalaaGreatDoor.openJ d).2.2) (y:=(zH mo.toNat (Go.Proofs.YtognnffjdckalaaGreatDoor.openJ d).2.2 ⟨[],[]⟩).1) (by rw[<-Classical.not_not.1 g3])
  exact this.up (by omega)
def wtO (l:List zV):Nat:=(l.map fun f=>wtB f.data).sum
theorem uC {mo:Nat} {L:DbL}:∀ {l:List zV} {N:Nat} {j:JV} {bl:BlL},wW mo N ⟨L,bl⟩->kF N j.d->wW mo (N+wtO l) ⟨L,(qR l j bl).2.1⟩/\kF (N+wtO l) (qR l j bl).1.d
 | [],N,j,bl,h,hd=>⟨h.up (by simp),hd.up (by simp)⟩
 | f::l,N,j,bl,h,hd=>by
  have e:wtO (f::l)=wtB f.data+wtO l:=rfl
  rw[qR,e]
  split
  ·obtain⟨a,b⟩:=uC (l:=l) h hd
   exact⟨a.up (by omega),b.up (by omega)⟩
  have ha:=hd.addJ (wX f.data)
  split
  ·obtain⟨a,b⟩:=uC (l:=l) (h.put f.data) ha
   exact⟨a.up (by unfold wtB;omega),b.up (by unfold wtB;omega)⟩
  ·exact⟨h.up (by omega),ha.up (by unfold wtB;omega)⟩
theorem zcp {N:Nat} {k:KV} (h:ZA N k) {t:qD} (ht:TrD t) (outs:List zV):ZA (N+(wtO outs+wtT t)) (w6 t outs k).1/\(w6 t outs k).1.mo=k.mo:=by
 obtain⟨h1,h2⟩:=uC (l:=outs) h.mem h.of
 have h3:=h2.addJ (yS t)
 unfold w6
 split
 ·exact⟨ZA.mk' (h.mem.up (by omega)) (h.of.up (by omega)) h.lo h.hi,rfl⟩
 split
 ·exact⟨ZA.mk' (h.mem.up (by omega)) (h.of.up (by omega)) h.lo h.hi,rfl⟩
 split
 ·exact⟨ZA.mk' (h1.up (by omega)) (h2.up (by omega)) h.lo h.hi,rfl⟩
 split
 ·exact⟨ZA.mk' (h1.up (by omega)) (h3.up (by grind [wtT])) h.lo h.hi,rfl⟩
 ·rename_i g1 _ _ _
  refine⟨ZA.mk' ?_ (h3.up (by grind [wtT])) h.lo h.hi,rfl⟩
  exact(h1.add h.lo ⟨ht,Classical.not_not.1 g1⟩).up (by omega)
theorem zeA {N:Nat} {k:KV} (h:ZA N k):ZA N (yE k).1/\(yE k).1.mo=k.mo:=by
 have hw:=G5 h.mem
 have hd:=h.of.swapJ hw
 unfold yE
 split
 ·exact⟨ZA.mk' h.mem.only hd h.lo h.hi,rfl⟩
 ·exact⟨ZA.mk' h.mem hd h.lo h.hi,rfl⟩
theorem zf9 (l:List (List UInt8)) (k:Nat) (h:k<l.length):wtR (l.take (k+1))=wtR (l.take k)+(12+l[k].length):=by
 rw[List.take_succ_eq_append_getElem h,zdT];rfl
theorem zmy (l:List (List UInt8)) (k:Nat):wtR (l.take k)<=wtR l:=by
 have:=zdT (l.take k) (l.drop k)
 rw[List.take_append_drop]at this;omega
theorem V0 (l:List (List UInt8)):l.length<=wtR l:=by
 induction l with
 | nil=>simp
 | cons r l ih=>have e:wtR (r::l)=12+r.length+wtR l:=rfl;rw[e,List.length_cons];omega
theorem D3 (l:List (List UInt8)) (k:Nat) (h:k<l.length):qJ (l.take (k+1))=qJ (l.take k)++frame l[k]:=by
 rw[List.take_succ_eq_append_getElem h];simp only[qJ,List.flatMap_append,List.flatMap_cons,List.flatMap_nil,List.append_nil]
abbrev zs4:Cfg:=⟨fun n=>n==5,fun n=>n==5⟩
theorem zlB (J B M:Nat) (hJ:JOK J B M) (l:List (List UInt8)) (hl:wtR l<=10000000000) (o:Bool) (j:JV) (hd:DOK j.d) (hn:szF j.d.n<=10000000000) :
  q6 Tryz.prog 55 [.av .ptr (.ptr J JnT []),.av (.slice 9) (.sl .no (qG l))] (jH J B M o j) fun r H'=>r=.av (.int .i64) (.i .i64 (swapJ l j).2)/\JnR J B M (swapJ l j).1 H':=by
 refine q6.sub (R:=fun r H'=>r=.av (.int .i64) (.i .i64 (swapJ l j).2)/\∃H2,Ab.HSub H2 H'/\JnR J B M (swapJ l j).1 H2) ?_ (fun r H' ⟨h1,H2,h2,h3⟩ _=>⟨H2,h2,h1,h3⟩)
 obtain⟨d,br⟩:=j
 simp only at hd hn
 have hll:=V0 l
 refine zov Tryz.func55 zs4 fun imm0 w0=>?_
 cases br with
 | true =>
  have ha:swapJ l ⟨d,true⟩=(⟨d,true⟩,19):=by unfold swapJ;rw[if_pos rfl]
  simp (disch:=omega) [zz,jH,jnO,ha,Tryz.f55]
  exact⟨_,HSub.refl _,o,rfl⟩
 | false =>
 simp (disch:=omega) [zz,jH,jnO]
 intro b5 h51 h52
 have h51':¬J=b5:=fun e=>h51 e.symm
 refine AT.loop' (α:=Nat × q7) (fun x=>St.of [(0,.av .ptr (.ptr J JnT [])),(5,.av .ptr (.ptr b5 yN [])),(19,.av (.slice 9) (.sl .no (qG l))),(20,.av (.int .i64) (.i .i64 l.length)),(21,.av (.int .i64) (.i .i64 x.1))] [] (fun _=>0) (x.2++jH J B M o ⟨d,false⟩))
  (fun x=>x.1<=l.length/\BS b5 (qJ (l.take x.1)) x.2/\∀r∈l.take x.1,r.length<=1048576) (fun x=>l.length-x.1) (0,[(b5,.var yN (.agg [.nilptr,.nsl]))]) ?_ ?_ ?_
 ·apply Le.of<;>simp[le9,jH,jnO]<;>try omega
 ·exact⟨by simp,.fresh _ (.inl rfl) (by simp[qJ]),by simp⟩
 rintro⟨k,Hb⟩ ⟨hk,hB,hs⟩ KL hN hE
 simp only at hk hB hs hN
 have hBe:=hB.er
 refine zrd zs4 ?_
 by_cases hlt:k<l.length
 ·have hlt':(k:Int)<l.length:=by omega
  have hg:=KC l k hlt
  have hwt:=zf9 l k hlt
  have hwl:=zmy l (k+1)
  have hfr:=zfu l[k] (by omega)
  have hft:=D3 l k hlt
  have hfl2:=ZL (l.take k)
  have hfl3:=QD l[k]
  obtain⟨r,hr⟩:∃r,r=l[k]:=⟨_,rfl⟩
  rw[<-hr]at hg hwt hfr hft hfl3
  simp (disch:=omega) [zz,hlt',hg]
  refine zcv hfr ?_
  by_cases hbig:1048576<r.length
  ·have ha:swapJ l ⟨d,false⟩=(⟨d,false⟩,6):=by
    unfold swapJ
    rw[if_neg (by simp),if_pos (List.any_eq_true.2 ⟨r,hr▸List.getElem_mem hlt,by simpa using hbig⟩)]
   rw[if_pos hbig,if_pos hbig]
   simp (disch:=omega) [zz]
   refine hE _ _ (by simp) ?_
   simp (disch:=omega) [zz,Tryz.f55,ha,q7.er_app,hBe]
   exact⟨_,HSub.of_sub (List.sublist_append_right _ _),o,rfl⟩
  ·rw[if_neg hbig,if_neg hbig]
   simp (disch:=omega) [zz]
   refine qM (R:=fun y H'=>y=.tup [(.int .i64,.i .i64 (frame r).length),(.iface,.nilifc)]/\BS b5 (qJ (l.take k)++frame r) H') Hb (jH J B M o ⟨d,false⟩) (by simp) rfl (by simp[qH]) (by simp) ?_ ?_
   ·rw[hBe]
    simpa[TV.er,AV.er]using zlG b5 (qJ (l.take k)) (frame r) Hb hB (by omega)
   rintro y H1 ⟨rfl,hB1⟩ _
   refine⟨_,HSub.refl _,?_⟩
   simp (disch:=omega) [zz]
   refine hN _ (k+1,H1) ?_ ⟨by simp only;omega,by simp only;rw[hft];exact hB1,?_⟩ (by simp only;omega)
   ·apply Le.of<;>simp[le9]<;>try omega
   ·intro y hy
    simp only at hy
    rw[List.take_succ_eq_append_getElem hlt,<-hr]at hy
    rcases List.mem_append.1 hy with hy|hy
    ·exact hs y hy
    ·rw[List.mem_singleton.1 hy];omega
 ·have hlt':¬(k:Int)<l.length:=by omega
  have hkl:k=l.length:=by omega
  subst hkl
  rw[List.take_of_length_le (Nat.le_refl _)]at hB hs
  have hany:(l.any fun r=>decide (1048576<r.length))=false:=by
   rw[List.any_eq_false]
   intro r hr
   have:=hs r hr
   simp;omega
  have ha:swapJ l ⟨d,false⟩=(⟨(thn (zL d) (kC (qJ l))).1,decide ((thn (zL d) (kC (qJ l))).2≠0)⟩,(thn (zL d) (kC (qJ l))).2):=by
   unfold swapJ;rw[if_neg (by simp),hany,if_neg (by simp)]
  have hfl:=ZL l
  simp (disch:=omega) [zz,hlt']
  refine hE _ _ (by simp) ?_
  simp (disch:=omega) [zz]
  refine CU Hb J B M hJ o d hd (List.Perm.refl _) (by simp[qH]) (by simp[q9,TV.er,AV.er,AV.ers]) fun o'=>?_
  by_cases ht:(zL d).2=0
  ·rw[dK _ ht]at ha
   have hn2:=(WW ht).1
   have hd2:=GU hd
   simp (disch:=omega) [zz,ht]
   refine qM (R:=fun y H'=>y=.av .str (.s (qJ l))) Hb (jH J B M o' ⟨(zL d).1,false⟩) (by simp) rfl (by simp[qH]) (by simp) ?_ ?_
   ·rw[hBe]
    simpa[TV.er,AV.er]using zd9 b5 (qJ l) Hb hB (by omega)
   rintro y H1 rfl _
   refine⟨jH J B M o' ⟨(zL d).1,false⟩,HSub.of_sub (List.sublist_append_right _ _),?_⟩
   simp (disch:=omega) [zz]
   refine C3 [] J B M hJ o' _ hd2 (qJ l) (by rw[hn2];simp only[szF];omega) (by simp) (by simp[qH]) (by simp[q9,TV.er,AV.er]) fun o2=>?_
   simp (disch:=omega) [zz,Tryz.f55,ha]
   exact⟨_,HSub.refl _,o2,rfl⟩
  ·rw[VN _ ht]at ha
   simp (disch:=omega) [zz,ht,Tryz.f55,ha,q7.er_app,hBe]
   exact⟨_,HSub.of_sub (List.sublist_append_right _ _),o',rfl⟩
end
end Go.Proofs.YtognnffjdckalaaGreatDoor
