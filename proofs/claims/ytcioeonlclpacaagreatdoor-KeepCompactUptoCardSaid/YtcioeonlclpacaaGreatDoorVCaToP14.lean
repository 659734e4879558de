/- A call of a function's value. No condition beyond each theorem's own. -/
import Derived.Test.YtcioeonlclpacaaGreatDoorB0
import Derived.Test.YtcioeonlclpacaaGreatDoorKT4ToKD1
import Derived.Test.YtcioeonlclpacaaGreatDoorP20ToKJ0
import Derived.Test.YtcioeonlclpacaaGreatDoorL0
import Derived.Test.YtcioeonlclpacaaGreatDoorP8ToE4a
import Derived.Test.YtcioeonlclpacaaGreatDoorSH2ToP16
set_option linter.unusedSimpArgs false
set_option linter.unusedVariables false
set_option linter.unusedSectionVars false
section
set_option maxRecDepth 100000
namespace Go.Proofs.YtcioeonlclpacaaGreatDoor
open Go Go.Ab
open Classical
variable [Sel]
def VC1 (v:AV) (args:List TV) (H:q8) (R:TV→q8→Prop):Prop:=match v with
 | .fn g caps=>∃cs,caps.mapM Z5=some cs∧qZ Tryz.prog g=true∧q7 Tryz.prog g ((args++cs).map TV.er) H R
 | .bm g fs=>∃cs,fs.mapM Z5=some cs∧qZ Tryz.prog g=true∧q7 Tryz.prog g ((cs++args).map TV.er) H R
 | _=>False
theorem ZG {s:St} {v:AV} {args:List TV} {dst:Option Nat} {K:St→Prop} {R:TV→q8→Prop} (Hs rest:q8) (hp:s.H.Perm (Hs++rest)) (he:Hs.er=Hs) (ha:args.all qQ=true) (h:VC1 v args Hs R)
  (hk:∀r H',R r H'→(H'++rest).keys.Nodup→∃H'',Ab.HSub H'' (H'++rest)∧K (({ s with H:=H'' }:St).put dst r)):ZP Tryz.prog s (.av .func v) args dst K:=by
 unfold VC1 at h
 split at h
 ·obtain⟨cs,h1,h2,h3⟩:=h
  exact qE Hs rest hp h1 ha h2 (by rw[he];exact h3) hk
 ·obtain⟨cs,h1,h2,h3⟩:=h
  exact zio Hs rest hp h1 ha h2 (by rw[he];exact h3) hk
 ·exact h.elim
end Go.Proofs.YtcioeonlclpacaaGreatDoor
end
section
set_option maxRecDepth 100000
namespace Go.Proofs.YtcioeonlclpacaaGreatDoor
open Go Go.Ab
open Classical
variable [Sel] [SelPow]
@[simp] theorem zG4:qZ Tryz.prog 91=true:=by kernel_rfl
@[simp] theorem zs0:z8 Tryz.prog (.func 91)=false:=q9 zG4
@[simp] theorem znO:qZ Tryz.prog 92=true:=by kernel_rfl
@[simp] theorem zrl:z8 Tryz.prog (.func 92)=false:=q9 znO
@[simp] theorem znr:qZ Tryz.prog 95=true:=by kernel_rfl
@[simp] theorem zs6:z8 Tryz.prog (.func 95)=false:=q9 znr
@[simp] theorem zkf:qZ Tryz.prog 152=true:=by kernel_rfl
@[simp] theorem zr1:z8 Tryz.prog (.func 152)=false:=q9 zkf
@[simp] theorem zlT:qZ Tryz.prog 153=true:=by kernel_rfl
@[simp] theorem zqJ:z8 Tryz.prog (.func 153)=false:=q9 zlT
@[simp] theorem zlE:qZ Tryz.prog 154=true:=by kernel_rfl
@[simp] theorem zqT:z8 Tryz.prog (.func 154)=false:=q9 zlE
@[simp] theorem zoc:qZ Tryz.prog 42=true:=by kernel_rfl
@[simp] theorem zsa:z8 Tryz.prog (.func 42)=false:=q9 zoc
@[simp] theorem zG0:qZ Tryz.prog 50=true:=by kernel_rfl
@[simp] theorem zGD:z8 Tryz.prog (.func 50)=false:=q9 zG0
@[simp] theorem zly:qZ Tryz.prog 108=true:=by kernel_rfl
@[simp] theorem zqs:z8 Tryz.prog (.func 108)=false:=q9 zly
@[simp] theorem zlm:qZ Tryz.prog 109=true:=by kernel_rfl
@[simp] theorem zqy:z8 Tryz.prog (.func 109)=false:=q9 zlm
@[simp] theorem zo2:qZ Tryz.prog 62=true:=by kernel_rfl
@[simp] theorem zs3:z8 Tryz.prog (.func 62)=false:=q9 zo2
abbrev JnT:TyD:=.struct [38,9,4]
def jnO (B:Nat) (br:Bool):HObj:=.var JnT (.agg [.ptr B zJB [],.s nmK,.b br])
noncomputable def jH (J B M:Nat) (o:Bool) (j:JV):q8:=(J,jnO B j.br)::j4 B M o j.d
@[simp] theorem zSw (B:Nat) (br:Bool):(jnO B br).er=jnO B br:=by simp[jnO,HObj.er_var,AV.erk,AV.erks]
@[simp] theorem zLz (J B M:Nat) (o:Bool) (j:JV):(jH J B M o j).er=jH J B M o j:=by simp[jH,q8.er_cons]
def JnR (J B M:Nat) (j:JV) (H:q8):Prop:=∃o,H=jH J B M o j
structure JOK (J B M:Nat):Prop where
 a:M≠B
 b:J≠B
 c:J≠M
theorem zdh (J B M:Nat) (hJ:JOK J B M) (o b:Bool) (j:JV):q7 Tryz.prog 93 [.av .ptr (.ptr J JnT []),.av .str (.s (nmB b))] (jH J B M o j) fun r H'=>r=.av .bool (.b (g5 b j.d).isSome)∧H'=jH J B M o j:=by
 have hnm:decide (nmB b∈c6 j.d)=(g5 b j.d).isSome:=by
  cases h:(g5 b j.d).isSome
  ·exact decide_eq_false fun e=>by have:=(zMK b j.d).1 e;rw[h]at this;cases this
  ·exact decide_eq_true ((zMK b j.d).2 h)
 have hct:=JP (c6 j.d) (nmB b) (by have:=zME j.d;omega)
 rw[hnm]at hct
 have hje:=zSw B j.br
 refine zov Tryz.func93 cf0 fun imm0 w0=>?_
 simp (disch:=omega) [zz,jH,jnO]
 refine zLH B M hJ.a o j.d [(J,jnO B j.br)] ?_ (by simp) ?_
 ·exact List.perm_append_comm (l₁:=[_])
 simp (disch:=omega) [zz]
 refine qL hct rfl rfl (by simp) (by simp[qS,TV.er,AV.er,AV.ers,VW]) ?_
 simp (disch:=omega) [zz,Tryz.f93]
theorem zLE {s:St} {dst:Option Nat} {K:St→Prop} {args:List TV} (pre:q8) (J B M:Nat) (hJ:JOK J B M) (o b:Bool) (j:JV) (hH:s.H.Perm (pre++jH J B M o j)) (ha:args.all qQ=true) (hx:qS (args.map TV.er) [.av .ptr (.ptr J JnT []),.av .str (.s (nmB b))])
  (hk:K (({ s with H:=s.H }:St).put dst (.av .bool (.b (g5 b j.d).isSome)))):ZP Tryz.prog s (.av .func (.fn 93 [])) args dst K:=by
 refine qE (jH J B M o j) pre (hH.trans List.perm_append_comm) rfl ha (by simp) (R:=fun r H'=>r=.av .bool (.b (g5 b j.d).isSome)∧H'=jH J B M o j) ?_ ?_
 ·rw[zLz]
  exact q7.args (zdh J B M hJ o b j) (by simpa using hx)
 rintro r' H' ⟨rfl,rfl⟩ _
 exact⟨s.H,HSub.of_perm (hH.trans List.perm_append_comm).symm,hk⟩
theorem JnR.of {J B M:Nat} {o:Bool} {j:JV}:JnR J B M j (jH J B M o j):=⟨o,rfl⟩
theorem JnR.of2 {J B M:Nat} {o br:Bool} {d:DV}:JnR J B M ⟨d,br⟩ ((J,.var JnT (.agg [.ptr B zJB [],.s nmK,.b br]))::j4 B M o d):=⟨o,rfl⟩
abbrev zTw:Cfg:=⟨fun _=>false,fun n=>n==1000003||n==2000020⟩
set_option maxHeartbeats 4000000 in
theorem zRQ (J B M:Nat) (hJ:JOK J B M) (o:Bool) (j:JV) (hd:DOK j.d):q7 Tryz.prog 92 [.av .ptr (.ptr J JnT [])] (jH J B M o j) fun r H'=>r=.av (.int .i64) (.i .i64 (W2 j.d).2)∧JnR J B M ⟨(W2 j.d).1,j.br⟩ H':=by
 have hna:nmK++[46,110,101,119]=nmN:=rfl
 have hnl:nmK.length=4:=rfl
 refine zov Tryz.func92 zTw fun imm0 w0=>?_
 simp (disch:=omega) [zz,jH,jnO,hna,hnl]
 refine zLE [] J B M hJ o true j (by simp[jH,jnO]) (by simp[qQ]) (by simp[qS,TV.er,AV.er,nmB]) ?_
 cases hn:j.d.n with
 | none =>
  have ht:W2 j.d=(j.d,0):=by unfold W2;rw[hn];rfl
  have hg:(g5 true j.d).isSome=false:=by simp[g5,hn]
  simp (disch:=omega) [zz,hg,ht,Tryz.f92,JnR.of2]
 | some f =>
  have ht:W2 j.d=zJd j.d:=by unfold W2;rw[hn];rfl
  have hg:(g5 true j.d).isSome=true:=by simp[g5,hn]
  simp (disch:=omega) [zz,hg,hna,hnl]
  refine jW.of [0,1,2,3,4,5,6,7,8,9,10] [] (by kernel_rfl) ?_
  simp (disch:=omega) [zz,hna,hnl]
  (repeat with_reducible refine om ?_)
  refine zK2 [(J,jnO B j.br)] B M o j.d (by simp[jnO,j4]) (zOo B M hJ.a o j.d hd) (by simp) (by simp[qQ]) (by simp[qS,TV.er,AV.er]) fun o'=>?_
  simp (disch:=omega) [zz,ht,Tryz.f92]
  exact JnR.of2
def zKZ:List (DV→DV × Int)→DV→DV × Int
 | [],d=>(d,0)
 | f::r,d=>if (f d).2=0 then zKZ r (f d).1 else f d
def zLq (Hc:q8) (J B M:Nat) (br:Bool):List AV→List (DV→DV × Int)→DV→Prop
 | [],[],_=>True
 | v::vs,f::fs,d=>(∀o,VC1 v [] (Hc++jH J B M o ⟨d,br⟩) fun r H'=>r=.av (.int .i64) (.i .i64 (f d).2)∧∃o',H'=Hc++jH J B M o' ⟨(f d).1,br⟩)∧((f d).2=0→zLq Hc J B M br vs fs (f d).1)
 | _,_,_=>False
def DoR (Hc:q8) (J B M:Nat) (j:JV) (H:q8):Prop:=∃o,H=Hc++jH J B M o j
theorem zNy {b:Nat} {x:HObj}:∀ {A C:q8},b∉A.keys→W1 (A++C) b x=A++W1 C b x
 | [],C,_=>rfl
 | (k,o)::A,C,h=>by
  simp only[q8.keys,List.map_cons,List.mem_cons,not_or]at h
  have ih:=zNy (b:=b) (x:=x) (A:=A) (C:=C) h.2
  have hk:¬k=b:=fun e=>h.1 e.symm
  simp only[List.cons_append,W1,hk,if_false,ih]
theorem zMC {b:Nat}:∀ {A C:q8},b∉A.keys→jM (A++C) b=jM C b
 | [],C,_=>rfl
 | (k,o)::A,C,h=>by
  simp only[q8.keys,List.map_cons,List.mem_cons,not_or]at h
  have ih:=zMC (b:=b) (A:=A) (C:=C) h.2
  have hk:¬k=b:=fun e=>h.1 e.symm
  simp only[List.cons_append,jM,hk,if_false,ih]
set_option maxHeartbeats 4000000 in
theorem zNj (J B M:Nat) (Hc:q8) (hHc:Hc.er=Hc) (vs:List AV) (fs:List (DV→DV × Int)) (o:Bool) (d₀:DV) (hlen:vs.length≤1000) (hD:zLq Hc J B M false vs fs d₀) :
  q7 Tryz.prog 91 [.av .ptr (.ptr J JnT []),.av (.slice 66) (.sl .no vs)] (Hc++jH J B M o ⟨d₀,false⟩) fun r H'=>r=.av (.int .i64) (.i .i64 (zKZ fs d₀).2)∧DoR Hc J B M ⟨(zKZ fs d₀).1,decide ((zKZ fs d₀).2≠0)⟩ H':=by
 refine q7.nodup fun hnd=>?_
 have hJc:J∉Hc.keys:=fun h=>by
  rw[q8.keys,List.map_append,List.nodup_append]at hnd
  exact hnd.2.2 J h J (by simp[jH]) rfl
 refine zov Tryz.func91 cf0 fun imm0 w0=>?_
 simp (disch:=omega) [zz]
 refine AT.loop' (α:=Nat × List (DV→DV × Int) × DV × Bool) (fun x=>St.of [(0,.av .ptr (.ptr J JnT [])),(8,.av (.slice 66) (.sl .no vs)),(9,.av (.int .i64) (.i .i64 vs.length)),(10,.av (.int .i64) (.i .i64 x.1))] [] (fun _=>0) (Hc++jH J B M x.2.2.2 ⟨x.2.2.1,false⟩))
  (fun x=>x.1≤vs.length∧zLq Hc J B M false (vs.drop x.1) x.2.1 x.2.2.1∧zKZ x.2.1 x.2.2.1=zKZ fs d₀) (fun x=>vs.length-x.1) (0,fs,d₀,o) ?_ ?_ ?_
 ·apply Le.of<;>simp[qU,qG,qO,qH,qP,qK,qF,qI,qJ,qN,]<;>try omega
 ·exact⟨by simp,by simpa using hD,rfl⟩
 rintro⟨k,gs,d,o⟩ ⟨hk,hD,hr⟩ KL hN hE
 simp only at hk hD hr hN
 refine qM (cf:=cf0) laid mixed _ _ _ (by kernel_rfl) ?_
 by_cases hlt:k<vs.length
 ·have hlt':(k:Int)<vs.length:=by omega
  obtain⟨v,hv⟩:∃v,vs[k]=v:=⟨_,rfl⟩
  have hdk:vs.drop k=v::vs.drop (k+1):=by rw[←hv];exact List.drop_eq_getElem_cons hlt
  rw[hdk]at hD
  match gs,hD with
  | f::gs,⟨hc,hD2⟩ =>
  rw[zKZ]at hr
  simp (disch:=omega) [zz,hlt',hv]
  refine ZG (R:=fun r H'=>r=.av (.int .i64) (.i .i64 (f d).2)∧∃o',H'=Hc++jH J B M o' ⟨(f d).1,false⟩) (Hc++jH J B M o ⟨d,false⟩) [] (by simp) (by rw[q8.er_app,hHc,zLz]) (by simp[qQ]) (hc o) ?_
  rintro r' H' ⟨rfl,o',rfl⟩ _
  refine⟨_,HSub.refl _,?_⟩
  by_cases he:(f d).2=0
  ·rw[if_pos he]at hr
   simp (disch:=omega) [zz,he]
   refine hN _ (k+1,gs,(f d).1,o') ?_ ⟨by simp only;omega,hD2 he,hr⟩ (by simp only;omega)
   apply Le.of<;>simp[qU,qG,qO,qH,qP,qK,qF,qI,qJ,qN,]<;>try omega
  ·rw[if_neg he]at hr
   have hg2:jM (Hc++jH J B M o' ⟨(f d).1,false⟩) J=some (.var JnT (.agg [.ptr B zJB [],.s nmK,.b false])):=by rw[zMC hJc];simp[jH,jnO,jM]
   have hs2:∀x,W1 (Hc++jH J B M o' ⟨(f d).1,false⟩) J x=Hc++(J,x)::j4 B M o' (f d).1:=fun x=>by rw[zNy hJc];simp[jH,W1]
   simp (disch:=omega) [zz,he,hg2,hs2]
   refine hE _ _ (by simp) ?_
   have hde:decide (¬(zKZ fs d₀).2=0)=true:=by rw[←hr];simp[he]
   simp (disch:=omega) [zz,Tryz.f91,q8.er_app,hHc,←hr,he]
   exact⟨o',rfl⟩
 ·have hlt':¬(k:Int)<vs.length:=by omega
  have hd0:vs.drop k=[]:=List.drop_of_length_le (by omega)
  rw[hd0]at hD
  match gs,hD with
  | [],_ =>
  rw[zKZ]at hr
  simp (disch:=omega) [zz,hlt']
  refine hE _ _ (by simp) ?_
  simp (disch:=omega) [zz,Tryz.f91,q8.er_app,hHc,←hr]
  exact⟨o,rfl⟩
noncomputable def zK4 (J:Nat):HObj:=.var .ptr (.ptr J JnT [])
def zJO (x:List UInt8):HObj:=.var .str (.s x)
@[simp] theorem zT1 (J:Nat):(zK4 J).er=zK4 J:=by simp[zK4,HObj.er_var,AV.erk]
@[simp] theorem zT2 (x:List UInt8):(zJO x).er=zJO x:=by simp[zJO,HObj.er_var,AV.erk]
noncomputable def anH (c2 c5 c3 J:Nat) (x:List UInt8):q8:=[(c2,zK4 J),(c5,zJO nmN),(c3,zJO x)]
noncomputable def adH (c2 c5 J:Nat) (x:List UInt8):q8:=[(c2,zK4 J),(c5,zJO x)]
abbrev zoZ:Cfg:=⟨fun _=>false,fun n=>n==1000001||n==2000010⟩
abbrev zTt:Cfg:=⟨fun _=>false,fun n=>n==1000001||n==2000008⟩
abbrev zTx:Cfg:=⟨fun _=>false,fun n=>n==1000001||n==2000012⟩
set_option maxHeartbeats 4000000 in
theorem zQC (c2 c5 c3 J B M:Nat) (hBM:M≠B) (x:List UInt8) (br o:Bool) (d:DV) (hd:DOK d) (hx:szF d.n+x.length≤1000000000000) :
  q7 Tryz.prog 152 [.av .ptr (.ptr c2 .ptr []),.av .ptr (.ptr c5 .str []),.av .ptr (.ptr c3 .str [])] (anH c2 c5 c3 J x++jH J B M o ⟨d,br⟩) fun r H'=>r=.av (.int .i64) (.i .i64 (kW true x d).2)∧DoR (anH c2 c5 c3 J x) J B M ⟨(kW true x d).1,br⟩ H':=by
 refine q7.nodup fun hnd=>?_
 simp[jH,anH,q8.keys,j4]at hnd
 refine zov Tryz.func152 zoZ fun imm0 w0=>?_
 simp (disch:=omega) [zz,anH,zK4,zJO,jH,jnO,hnd]
 refine jW.of [0,1,2,3,4,5,6,7] [] (by kernel_rfl) ?_
 simp (disch:=omega) [zz,hnd]
 (repeat with_reducible refine om ?_)
 refine zK2 [(c2,zK4 J),(c5,zJO nmN),(c3,zJO x),(J,jnO B br)] B M o d (by simp[jnO,j4,zK4,zJO]) (zM2 B M hBM o d hd true x hx) (by simp) (by simp[qQ]) (by simp[qS,TV.er,AV.er,nmB]) fun o'=>?_
 simp (disch:=omega) [zz,Tryz.f152]
 exact⟨o',rfl⟩
set_option maxHeartbeats 4000000 in
theorem zQ7 (c2 c5 c3 J B M:Nat) (hBM:M≠B) (x:List UInt8) (br o:Bool) (d:DV) (hd:DOK d) (hx:szF d.n≤1000000000000) :
  q7 Tryz.prog 153 [.av .ptr (.ptr c2 .ptr []),.av .ptr (.ptr c5 .str [])] (anH c2 c5 c3 J x++jH J B M o ⟨d,br⟩) fun r H'=>r=.av (.int .i64) (.i .i64 (c8 true d).2)∧DoR (anH c2 c5 c3 J x) J B M ⟨(c8 true d).1,br⟩ H':=by
 refine q7.nodup fun hnd=>?_
 simp[jH,anH,q8.keys,j4]at hnd
 refine zov Tryz.func153 zTt fun imm0 w0=>?_
 simp (disch:=omega) [zz,anH,zK4,zJO,jH,jnO,hnd]
 refine jW.of [0,1,2,3,4,5,6] [] (by kernel_rfl) ?_
 simp (disch:=omega) [zz,hnd]
 (repeat with_reducible refine om ?_)
 refine zK2 [(c2,zK4 J),(c5,zJO nmN),(c3,zJO x),(J,jnO B br)] B M o d (by simp[jnO,j4,zK4,zJO]) (zNC B M hBM o d hd true hx) (by simp) (by simp[qQ]) (by simp[qS,TV.er,AV.er,nmB]) fun o'=>?_
 simp (disch:=omega) [zz,Tryz.f153]
 exact⟨o',rfl⟩
set_option maxHeartbeats 4000000 in
theorem zQ9 (c2 c5 c3 J B M:Nat) (hBM:M≠B) (x:List UInt8) (br o:Bool) (d:DV) (hd:DOK d) :
  q7 Tryz.prog 154 [.av .ptr (.ptr c2 .ptr []),.av .ptr (.ptr c5 .str [])] (anH c2 c5 c3 J x++jH J B M o ⟨d,br⟩) fun r H'=>r=.av (.int .i64) (.i .i64 (zb1 d).2)∧DoR (anH c2 c5 c3 J x) J B M ⟨(zb1 d).1,br⟩ H':=by
 refine q7.nodup fun hnd=>?_
 simp[jH,anH,q8.keys,j4]at hnd
 refine zov Tryz.func154 zTx fun imm0 w0=>?_
 simp (disch:=omega) [zz,anH,zK4,zJO,jH,jnO,hnd]
 refine jW.of [0,1,2,3,4,5,6,7,8,9,10] [] (by kernel_rfl) ?_
 simp (disch:=omega) [zz,hnd]
 (repeat with_reducible refine om ?_)
 refine zK2 [(c2,zK4 J),(c5,zJO nmN),(c3,zJO x),(J,jnO B br)] B M o d (by simp[jnO,j4,zK4,zJO]) (zOv B M hBM o d hd) (by simp) (by simp[qQ]) (by simp[qS,TV.er,AV.er]) fun o'=>?_
 simp (disch:=omega) [zz,Tryz.f154]
 exact⟨o',rfl⟩
abbrev zTv:Cfg:=⟨fun _=>false,fun n=>n==1000001||n==2000012⟩
abbrev zTr:Cfg:=⟨fun _=>false,fun n=>n==1000001||n==2000010⟩
set_option maxHeartbeats 4000000 in
theorem zR3 (c2 c5 J B M:Nat) (hBM:M≠B) (x:List UInt8) (br o:Bool) (d:DV) (hd:DOK d) (hx:szF d.m+x.length≤1000000000000) :
  q7 Tryz.prog 108 [.av .ptr (.ptr c2 .ptr []),.av .ptr (.ptr c5 .str [])] (adH c2 c5 J x++jH J B M o ⟨d,br⟩) fun r H'=>r=.av (.int .i64) (.i .i64 (kW false x d).2)∧DoR (adH c2 c5 J x) J B M ⟨(kW false x d).1,br⟩ H':=by
 refine q7.nodup fun hnd=>?_
 simp[jH,adH,q8.keys,j4]at hnd
 refine zov Tryz.func108 zTv fun imm0 w0=>?_
 simp (disch:=omega) [zz,adH,zK4,zJO,jH,jnO,hnd]
 refine jW.of [0,1,2,3,4,5,6,7,8,9,10] [] (by kernel_rfl) ?_
 simp (disch:=omega) [zz,hnd]
 (repeat with_reducible refine om ?_)
 refine zK2 [(c2,zK4 J),(c5,zJO x),(J,jnO B br)] B M o d (by simp[jnO,j4,zK4,zJO]) (zM2 B M hBM o d hd false x hx) (by simp) (by simp[qQ]) (by simp[qS,TV.er,AV.er,nmB]) fun o'=>?_
 simp (disch:=omega) [zz,Tryz.f108]
 exact⟨o',rfl⟩
set_option maxHeartbeats 4000000 in
theorem zPZ (c2 c5 J B M:Nat) (hBM:M≠B) (x:List UInt8) (br o:Bool) (d:DV) (hd:DOK d) (hx:szF d.m≤1000000000000) :
  q7 Tryz.prog 109 [.av .ptr (.ptr c2 .ptr [])] (adH c2 c5 J x++jH J B M o ⟨d,br⟩) fun r H'=>r=.av (.int .i64) (.i .i64 (c8 false d).2)∧DoR (adH c2 c5 J x) J B M ⟨(c8 false d).1,br⟩ H':=by
 refine q7.nodup fun hnd=>?_
 simp[jH,adH,q8.keys,j4]at hnd
 refine zov Tryz.func109 zTr fun imm0 w0=>?_
 simp (disch:=omega) [zz,adH,zK4,zJO,jH,jnO,hnd]
 refine jW.of [0,1,2,3,4,5,6,7,8,9] [] (by kernel_rfl) ?_
 simp (disch:=omega) [zz,hnd]
 (repeat with_reducible refine om ?_)
 refine zK2 [(c2,zK4 J),(c5,zJO x),(J,jnO B br)] B M o d (by simp[jnO,j4,zK4,zJO]) (zNC B M hBM o d hd false hx) (by simp) (by simp[qQ]) (by simp[qS,TV.er,AV.er,nmB]) fun o'=>?_
 simp (disch:=omega) [zz,Tryz.f109]
 exact⟨o',rfl⟩
theorem zQX {r:DV × Int} (f:DV→DV × Int) (h:r.2=0):thn r f=f r.1:=by unfold thn;rw[if_pos h]
theorem zOT {r:DV × Int} (f:DV→DV × Int) (h:¬r.2=0):thn r f=r:=by unfold thn;rw[if_neg h]
theorem zPR (a:DV × Int) (f g:DV→DV × Int):thn (thn a f) g=thn a fun d=>thn (f d) g:=by
 by_cases h:a.2=0
 ·rw[zQX f h,zQX (fun d=>thn (f d) g) h]
 ·rw[zOT f h,zOT (fun d=>thn (f d) g) h,zOT g h]
theorem zRS (a:DV × Int):thn a (fun d=>(d,0))=a:=by
 by_cases h:a.2=0
 ·rw[zQX _ h,←h]
 ·rw[zOT _ h]
theorem zKR (f:DV→DV × Int) (r:List (DV→DV × Int)) (d:DV):zKZ (f::r) d=thn (f d) (zKZ r):=rfl
theorem zQR:zKZ []=fun d=>(d,0):=rfl
theorem zLU (f:DV→DV × Int) (d:DV):zKZ [f] d=f d:=by rw[zKR,zQR,zRS]
theorem zPq (x:List UInt8) (d:DV):zKZ [kW true x,c8 true,zb1] d=zJn x d:=by
 rw[zKR,zJn,zPR]
 congr 1
 funext d1
 rw[zKR]
 congr 1
 funext d2
 exact zLU _ _
theorem zQM (x:List UInt8) (d:DV):zKZ [kW false x,c8 false] d=thn (kW false x d) (c8 false):=by
 rw[zKR]
 congr 1
 funext d1
 exact zLU _ _
theorem zNB (x:List UInt8) (d:DV):szF (kW true x d).1.n≤szF d.n+x.length:=by
 unfold kW
 split
 ·simp only;omega
 ·simp only[zJC,g5,if_true]
  cases d.n<;>simp[zKf,szF]
theorem zNx (x:List UInt8) (d:DV):szF (kW false x d).1.m≤szF d.m+x.length:=by
 unfold kW
 split
 ·simp only;omega
 ·simp only[zJC,g5,Bool.false_eq_true,if_false]
  cases d.m<;>simp[zKf,szF]
theorem zPK (c2 c5 c3 J B M:Nat) (hBM:M≠B) (x:List UInt8) (d:DV) (hd:DOK d) (hx:szF d.n+x.length≤1000000000000) :
  zLq (anH c2 c5 c3 J x) J B M false [.fn 152 [.ptr c2 .ptr [],.ptr c5 .str [],.ptr c3 .str []],.fn 153 [.ptr c2 .ptr [],.ptr c5 .str []],.fn 154 [.ptr c2 .ptr [],.ptr c5 .str []]] [kW true x,c8 true,zb1] d:=by
 have hz:=zNB x d
 have hd1:=zKk (b:=true) (x:=x) hd
 have hd2:=zNM (b:=true) hd1
 refine⟨fun o=>⟨_,rfl,by simp,?_⟩,fun _=>⟨fun o=>⟨_,rfl,by simp,?_⟩,fun _=>⟨fun o=>⟨_,rfl,by simp,?_⟩,fun _=>trivial⟩⟩⟩
 ·exact zQC c2 c5 c3 J B M hBM x false o d hd hx
 ·exact zQ7 c2 c5 c3 J B M hBM x false o _ hd1 (by omega)
 ·exact zQ9 c2 c5 c3 J B M hBM x false o _ hd2
abbrev zTp:Cfg:=⟨fun n=>n==2||n==3||n==5,fun _=>false⟩
theorem zQQ (c2 c5 c3 J:Nat) (x:List UInt8):(anH c2 c5 c3 J x).er=anH c2 c5 c3 J x:=by simp[anH,q8.er_cons,q8.er_nil]
theorem zO9 (c2 c5 J:Nat) (x:List UInt8):(adH c2 c5 J x).er=adH c2 c5 J x:=by simp[adH,q8.er_cons,q8.er_nil]
set_option maxHeartbeats 4000000 in
theorem zRV (J B M:Nat) (hJ:JOK J B M) (x:List UInt8) (o:Bool) (d:DV) (hd:DOK d) (hx:szF d.n+x.length≤1000000000000) :
  q7 Tryz.prog 95 [.av .ptr (.ptr J JnT []),.av .str (.s x)] (jH J B M o ⟨d,false⟩) fun r H'=>r=.av (.int .i64) (.i .i64 (zJn x d).2)∧JnR J B M ⟨(zJn x d).1,decide ((zJn x d).2≠0)⟩ H':=by
 have hna:nmK++[46,110,101,119]=nmN:=rfl
 have hnl:nmK.length=4:=rfl
 refine zov Tryz.func95 zTp fun imm0 w0=>?_
 simp (disch:=omega) [zz,jH,jnO]
 intro c2 a1 a2 c3 a3 a4 a5
 have a1':¬J=c2:=fun e=>a1 e.symm
 have a3':¬c2=c3:=fun e=>a3 e.symm
 have a4':¬J=c3:=fun e=>a4 e.symm
 simp (disch:=omega) [zz,a1,a1',a3,a3',a4,a4',hna,hnl]
 intro c5 a6 a7 a8 a9
 have a6':¬c3=c5:=fun e=>a6 e.symm
 have a7':¬c2=c5:=fun e=>a7 e.symm
 have a8':¬J=c5:=fun e=>a8 e.symm
 simp (disch:=omega) [zz,a1,a1',a3,a3',a4,a4',a6,a6',a7,a7',a8,a8',hna,hnl]
 refine qE (R:=fun r H'=>r=.av (.int .i64) (.i .i64 (zJn x d).2)∧DoR (anH c2 c5 c3 J x) J B M ⟨(zJn x d).1,decide ((zJn x d).2≠0)⟩ H') (anH c2 c5 c3 J x++jH J B M o ⟨d,false⟩) [] ?_ rfl (by simp[qQ]) (by simp) ?_ ?_
 ·rw[List.append_nil]
  exact List.Perm.append_right (jH J B M o ⟨d,false⟩) (List.perm_append_comm (l₁:=[(c5,zJO nmN),(c3,zJO x)]) (l₂:=[(c2,zK4 J)]))
 ·have:=zNj J B M _ (zQQ c2 c5 c3 J x) _ _ o d (by simp) (zPK c2 c5 c3 J B M hJ.a x d hd hx)
  rw[zPq]at this
  rw[q8.er_app,zQQ,zLz]
  simpa[TV.er,AV.er,AV.ers]using this
 rintro r' H' ⟨rfl,o',rfl⟩ _
 refine⟨jH J B M o' ⟨(zJn x d).1,decide ((zJn x d).2≠0)⟩,HSub.of_sub (by rw[List.append_nil];exact List.sublist_append_right _ _),?_⟩
 simp (disch:=omega) [zz,Tryz.f95]
 exact⟨o',rfl⟩
theorem zQo (c2 c5 J B M:Nat) (hBM:M≠B) (x:List UInt8) (d:DV) (hd:DOK d) (hx:szF d.m+x.length≤1000000000000) :
  zLq (adH c2 c5 J x) J B M false [.fn 108 [.ptr c2 .ptr [],.ptr c5 .str []],.fn 109 [.ptr c2 .ptr []]] [kW false x,c8 false] d:=by
 have hz:=zNx x d
 have hd1:=zKk (b:=false) (x:=x) hd
 refine⟨fun o=>⟨_,rfl,by simp,?_⟩,fun _=>⟨fun o=>⟨_,rfl,by simp,?_⟩,fun _=>trivial⟩⟩
 ·exact zR3 c2 c5 J B M hBM x false o d hd hx
 ·exact zPZ c2 c5 J B M hBM x false o _ hd1 (by omega)
abbrev zTm:Cfg:=⟨fun n=>n==2||n==5,fun _=>false⟩
set_option maxHeartbeats 4000000 in
theorem zPd (J B M:Nat) (hJ:JOK J B M) (x:List UInt8) (o:Bool) (j:JV) (hd:DOK j.d) (hx:szF j.d.m+x.length≤10000000000) :
  q7 Tryz.prog 50 [.av .ptr (.ptr J JnT []),.av .str (.s x)] (jH J B M o j) fun r H'=>r=.av (.int .i64) (.i .i64 (addJ x j).2)∧JnR J B M (addJ x j).1 H':=by
 refine q7.sub (R:=fun r H'=>r=.av (.int .i64) (.i .i64 (addJ x j).2)∧∃H2,Ab.HSub H2 H'∧JnR J B M (addJ x j).1 H2) ?_ (fun r H' ⟨h1,H2,h2,h3⟩ _=>⟨H2,h2,h1,h3⟩)
 obtain⟨d,br⟩:=j
 simp only at hd hx
 have hfr:=zQl x (by omega)
 have hfl:=zJq x
 refine zov Tryz.func50 zTm fun imm0 w0=>?_
 cases br with
 | true =>
  have ha:addJ x ⟨d,true⟩=(⟨d,true⟩,19):=by unfold addJ;rw[if_pos rfl]
  simp (disch:=omega) [zz,jH,jnO]
  intro c2 a1 a2
  have a1':¬J=c2:=fun e=>a1 e.symm
  simp (disch:=omega) [zz,a1,a1',ha,Tryz.f50]
  exact⟨_,HSub.of_sub (List.sublist_cons_self _ _),o,rfl⟩
 | false =>
  simp (disch:=omega) [zz,jH,jnO]
  intro c2 a1 a2
  have a1':¬J=c2:=fun e=>a1 e.symm
  simp (disch:=omega) [zz,a1,a1']
  refine zcv hfr ?_
  by_cases hl:1048576<x.length
  ·have ha:addJ x ⟨d,false⟩=(⟨d,false⟩,6):=by unfold addJ;rw[if_neg (by simp),if_pos hl]
   rw[if_pos hl,if_pos hl]
   simp (disch:=omega) [zz,a1,a1',ha]
   intro c5 a3 a4 a5
   simp (disch:=omega) [zz,a1,a1',Tryz.f50]
   exact⟨_,HSub.of_sub ((List.sublist_cons_self _ _).trans (List.sublist_cons_self _ _)),o,rfl⟩
  ·have ha:addJ x ⟨d,false⟩=(⟨(thn (kW false (frame x) d) (c8 false)).1,decide ((thn (kW false (frame x) d) (c8 false)).2≠0)⟩,(thn (kW false (frame x) d) (c8 false)).2):=by unfold addJ;rw[if_neg (by simp),if_neg hl]
   rw[if_neg hl,if_neg hl]
   simp (disch:=omega) [zz,a1,a1',ha]
   intro c5 a3 a4 a5
   have a3':¬c2=c5:=fun e=>a3 e.symm
   have a4':¬J=c5:=fun e=>a4 e.symm
   simp (disch:=omega) [zz,a1,a1',a3,a3',a4,a4']
   refine qE (R:=fun r H'=>r=.av (.int .i64) (.i .i64 (thn (kW false (frame x) d) (c8 false)).2)∧DoR (adH c2 c5 J (frame x)) J B M ⟨(thn (kW false (frame x) d) (c8 false)).1,decide ((thn (kW false (frame x) d) (c8 false)).2≠0)⟩ H') (adH c2 c5 J (frame x)++jH J B M o ⟨d,false⟩) [] ?_ rfl (by simp[qQ]) (by simp) ?_ ?_
   ·rw[List.append_nil]
    exact List.Perm.append_right (jH J B M o ⟨d,false⟩) (List.perm_append_comm (l₁:=[(c5,zJO (frame x))]) (l₂:=[(c2,zK4 J)]))
   ·have:=zNj J B M _ (zO9 c2 c5 J (frame x)) _ _ o d (by simp) (zQo c2 c5 J B M hJ.a (frame x) d hd (by omega))
    rw[zQM]at this
    rw[q8.er_app,zO9,zLz]
    simpa[TV.er,AV.er,AV.ers]using this
   rintro r' H' ⟨rfl,o',rfl⟩ _
   refine⟨_,HSub.refl _,?_⟩
   simp (disch:=omega) [zz,Tryz.f50,q8.er_app,zO9]
   exact⟨_,HSub.of_sub (List.sublist_append_right _ _),o',rfl⟩
theorem zRv (J B M:Nat) (hJ:JOK J B M) (d:DV) (hd:DOK d):zLq [] J B M false [.bm 92 [.ptr J JnT []]] [W2] d :=
 ⟨fun o=>⟨_,rfl,by simp,zRQ J B M hJ o ⟨d,false⟩ hd⟩,fun _=>trivial⟩
theorem zO7 {s:St} {dst:Option Nat} {K:St→Prop} {args:List TV} (pre:q8) (J B M:Nat) (hJ:JOK J B M) (o:Bool) (d:DV) (hd:DOK d) (hH:s.H.Perm (pre++jH J B M o ⟨d,false⟩)) (ha:args.all qQ=true)
  (hx:qS (args.map TV.er) [.av .ptr (.ptr J JnT []),.av (.slice 66) (.sl .no [.bm 92 [.ptr J JnT []]])])
  (hk:∀o',K (({ s with H:=pre++jH J B M o' ⟨(W2 d).1,decide ((W2 d).2≠0)⟩ }:St).put dst (.av (.int .i64) (.i .i64 (W2 d).2)))):ZP Tryz.prog s (.av .func (.fn 91 [])) args dst K:=by
 refine qE (jH J B M o ⟨d,false⟩) pre (hH.trans List.perm_append_comm) rfl ha (by simp) (R:=fun r H'=>r=.av (.int .i64) (.i .i64 (W2 d).2)∧DoR [] J B M ⟨(W2 d).1,decide ((W2 d).2≠0)⟩ H') ?_ ?_
 ·have:=zNj J B M [] rfl _ _ o d (by simp) (zRv J B M hJ d hd)
  rw[zLU]at this
  rw[zLz]
  exact q7.args this (by simpa using hx)
 rintro r' H' ⟨rfl,o',rfl⟩ _
 exact⟨_,HSub.of_perm List.perm_append_comm,hk o'⟩
theorem zOe {s:St} {dst:Option Nat} {K:St→Prop} {args:List TV} (pre:q8) (J B M:Nat) (hJ:JOK J B M) (o:Bool) (d:DV) (hd:DOK d) (x:List UInt8) (hx0:szF d.n+x.length≤1000000000000) (hH:s.H.Perm (pre++jH J B M o ⟨d,false⟩)) (ha:args.all qQ=true)
  (hx:qS (args.map TV.er) [.av .ptr (.ptr J JnT []),.av .str (.s x)])
  (hk:∀o',K (({ s with H:=pre++jH J B M o' ⟨(zJn x d).1,decide ((zJn x d).2≠0)⟩ }:St).put dst (.av (.int .i64) (.i .i64 (zJn x d).2)))):ZP Tryz.prog s (.av .func (.fn 95 [])) args dst K:=by
 refine qE (jH J B M o ⟨d,false⟩) pre (hH.trans List.perm_append_comm) rfl ha (by simp) (R:=fun r H'=>r=.av (.int .i64) (.i .i64 (zJn x d).2)∧JnR J B M ⟨(zJn x d).1,decide ((zJn x d).2≠0)⟩ H') ?_ ?_
 ·rw[zLz]
  exact q7.args (zRV J B M hJ x o d hd hx0) (by simpa using hx)
 rintro r' H' ⟨rfl,o',rfl⟩ _
 exact⟨_,HSub.of_perm List.perm_append_comm,hk o'⟩
end Go.Proofs.YtcioeonlclpacaaGreatDoor
end
section
set_option maxRecDepth 100000
namespace Go.Proofs.YtcioeonlclpacaaGreatDoor
open Go Go.Ab
open Classical
variable [Sel]
end Go.Proofs.YtcioeonlclpacaaGreatDoor
end
section
set_option maxRecDepth 100000
namespace Go.Proofs.YtcioeonlclpacaaGreatDoor
open Go Go.Ab
open Classical
variable [Sel]
@[simp] theorem zA5:qZ Tryz.prog 120=true:=by kernel_rfl
@[simp] theorem zB8:z8 Tryz.prog (.func 120)=false:=q9 zA5
@[simp] theorem zAl:qZ Tryz.prog 121=true:=by kernel_rfl
@[simp] theorem zBb:z8 Tryz.prog (.func 121)=false:=q9 zAl
@[simp] theorem zo5:qZ Tryz.prog 58=true:=by kernel_rfl
@[simp] theorem zrN:z8 Tryz.prog (.func 58)=false:=q9 zo5
@[simp] theorem zAB:qZ Tryz.prog 19=true:=by kernel_rfl
@[simp] theorem zBs:z8 Tryz.prog (.func 19)=false:=q9 zAB
set_option maxHeartbeats 4000000 in
theorem zEN (a b:List XF) (ha:a.length≤9223372036854775807) (hb:b.length≤9223372036854775807) :
  PC Tryz.prog 120 [.av (.slice 105) (qF a),.av (.slice 105) (qF b)] (.av .bool (.b (decide (a=b)))):=by
 refine zow Tryz.func120 cf0 fun imm0 w0=>?_
 by_cases hab:a.length=b.length
 rotate_left
 ·have h1:¬(a.length:Int)=b.length:=by omega
  have h2:¬a=b:=fun e=>hab (by rw[e])
  simp (disch:=omega) [zz,h1,qF,Tryz.f120,h2]
 have h1:(a.length:Int)=b.length:=by omega
 simp (disch:=omega) [zz,h1,qF]
 refine AT.loop' (α:=Nat) (fun k=>St.of [(0,.av (.slice 105) (qF a)),(1,.av (.slice 105) (qF b)),(12,.av (.int .i64) (.i .i64 b.length)),(13,.av (.int .i64) (.i .i64 k))] [] (fun _=>0) [])
  (fun k=>k≤b.length∧∀i,i<k→∀(h1:i<a.length) (h2:i<b.length),a[i]=b[i]) (fun k=>b.length-k) 0 ?_ ?_ ?_
 ·apply Le.of<;>simp[qU,qG,qO,qH,qP,qK,qF,qI,qJ,qN,qF]<;>try omega
 ·exact⟨by omega,fun i h=>by omega⟩
 rintro k ⟨hk,hall⟩ KL hN hE
 refine qM (cf:=cf0) laid mixed _ _ _ (by kernel_rfl) ?_
 by_cases hlt:k<b.length
 ·have hlt':(k:Int)<b.length:=by omega
  have hga:=KB qI a k (by omega)
  have hgb:=KB qI b k hlt
  have hlta:(k:Int)<a.length:=by omega
  by_cases hc:a[k]=b[k]
  ·simp (disch:=omega) [zz,hlt',hlta,hga,hgb,qF,GV,hc]
   (repeat with_reducible refine om ?_)
   refine hN _ (k+1) ?_ ⟨by omega,fun i hi h1 h2=>?_⟩ (by omega)
   ·apply Le.of<;>simp[qU,qG,qO,qH,qP,qK,qF,qI,qJ,qN,qF]<;>try omega
   ·rcases Nat.lt_or_ge i k with h|h
    ·exact hall i h h1 h2
    ·have:i=k:=by omega
     subst this;exact hc
  ·have hne:¬a=b:=fun e=>hc (by subst e;rfl)
   simp (disch:=omega) [zz,hlt',hlta,hga,hgb,qF,GV,hc]
   (repeat with_reducible refine om ?_)
   refine hE _ _ (by simp) ?_
   simp (disch:=omega) [zz,Tryz.f120,hne]
 ·have hlt':¬(k:Int)<b.length:=by omega
  simp (disch:=omega) [zz,hlt',qF]
  refine hE _ _ (by simp) ?_
  have:a=b:=C0 hab fun i h1 h2=>hall i (by omega) h1 h2
  simp (disch:=omega) [zz,Tryz.f120,this]
set_option maxHeartbeats 4000000 in
theorem zEZ (a b:List Made) (ha:a.length≤9223372036854775807) (hb:b.length≤9223372036854775807) :
  PC Tryz.prog 121 [.av (.slice 95) (qJ a),.av (.slice 95) (qJ b)] (.av .bool (.b (decide (a=b)))):=by
 refine zow Tryz.func121 cf0 fun imm0 w0=>?_
 by_cases hab:a.length=b.length
 rotate_left
 ·have h1:¬(a.length:Int)=b.length:=by omega
  have h2:¬a=b:=fun e=>hab (by rw[e])
  simp (disch:=omega) [zz,h1,qJ,Tryz.f121,h2]
 have h1:(a.length:Int)=b.length:=by omega
 simp (disch:=omega) [zz,h1,qJ]
 refine AT.loop' (α:=Nat) (fun k=>St.of [(0,.av (.slice 95) (qJ a)),(1,.av (.slice 95) (qJ b)),(12,.av (.int .i64) (.i .i64 b.length)),(13,.av (.int .i64) (.i .i64 k))] [] (fun _=>0) [])
  (fun k=>k≤b.length∧∀i,i<k→∀(h1:i<a.length) (h2:i<b.length),a[i]=b[i]) (fun k=>b.length-k) 0 ?_ ?_ ?_
 ·apply Le.of<;>simp[qU,qG,qO,qH,qP,qK,qF,qI,qJ,qN,qJ]<;>try omega
 ·exact⟨by omega,fun i h=>by omega⟩
 rintro k ⟨hk,hall⟩ KL hN hE
 refine qM (cf:=cf0) laid mixed _ _ _ (by kernel_rfl) ?_
 by_cases hlt:k<b.length
 ·have hlt':(k:Int)<b.length:=by omega
  have hga:=KB qN a k (by omega)
  have hgb:=KB qN b k hlt
  have hlta:(k:Int)<a.length:=by omega
  by_cases hc:a[k]=b[k]
  ·simp (disch:=omega) [zz,hlt',hlta,hga,hgb,qJ,zDP,hc]
   (repeat with_reducible refine om ?_)
   refine hN _ (k+1) ?_ ⟨by omega,fun i hi h1 h2=>?_⟩ (by omega)
   ·apply Le.of<;>simp[qU,qG,qO,qH,qP,qK,qF,qI,qJ,qN,qJ]<;>try omega
   ·rcases Nat.lt_or_ge i k with h|h
    ·exact hall i h h1 h2
    ·have:i=k:=by omega
     subst this;exact hc
  ·have hne:¬a=b:=fun e=>hc (by subst e;rfl)
   simp (disch:=omega) [zz,hlt',hlta,hga,hgb,qJ,zDP,hc]
   (repeat with_reducible refine om ?_)
   refine hE _ _ (by simp) ?_
   simp (disch:=omega) [zz,Tryz.f121,hne]
 ·have hlt':¬(k:Int)<b.length:=by omega
  simp (disch:=omega) [zz,hlt',qJ]
  refine hE _ _ (by simp) ?_
  have:a=b:=C0 hab fun i h1 h2=>hall i (by omega) h1 h2
  simp (disch:=omega) [zz,Tryz.f121,this]
def zG2 (t:zaP):Prop:=t.reads.length≤9223372036854775807∧t.outs.length≤9223372036854775807
def zDY (a b:zaP):Bool:=decide (a.key=b.key∧a.reads=b.reads∧a.outs=b.outs)
theorem zFc {a b:zaP}:zDY a b=true↔a=b:=by cases a;cases b;simp[zDY]
set_option maxHeartbeats 4000000 in
theorem zFS (a b:zaP) (ha:zG2 a) (hb:zG2 b):PC Tryz.prog 58 [.av (qD Tryz.prog 49) (qK a),.av (qD Tryz.prog 49) (qK b)] (.av .bool (.b (zDY a b))):=by
 refine zow Tryz.func58 cf0 fun imm0 w0=>?_
 by_cases h1:a.key=b.key
 ·simp (disch:=omega) [zz,qK,KW,zDL,h1]
  refine qL (zEN a.reads b.reads ha.1 hb.1) rfl rfl (by simp) (by simp[qS,TV.er]) ?_
  by_cases h2:a.reads=b.reads
  ·simp (disch:=omega) [zz,h2,qK]
   refine qL (zEZ a.outs b.outs ha.2 hb.2) rfl rfl (by simp) (by simp[qS,TV.er]) ?_
   simp (disch:=omega) [zz,h2,Tryz.f58,zDY,h1]
  ·simp (disch:=omega) [zz,h2,Tryz.f58,zDY,h1]
 ·simp (disch:=omega) [zz,qK,KW,zDL,h1,Tryz.f58,zDY]
set_option maxHeartbeats 8000000 in
theorem zQ6 (a b:zaP) (ha:zG2 a) (hb:zG2 b):PC Tryz.prog 19 [.av (qD Tryz.prog 49) (qK a),.av (qD Tryz.prog 49) (qK b)] (.av .bool (.b (zDY a b))):=by
 obtain⟨ha1,ha2⟩:=ha
 obtain⟨hb1,hb2⟩:=hb
 refine zow Tryz.func19 cf0 fun imm0 w0=>?_
 by_cases h1:a.key=b.key
 rotate_left
 ·simp (disch:=omega) [zz,qK,KW,zDL,h1,Tryz.f19,zDY]
 by_cases h2:a.reads.length=b.reads.length
 rotate_left
 ·have h2':¬(a.reads.length:Int)=b.reads.length:=by omega
  have h3:¬a.reads=b.reads:=fun e=>h2 (by rw[e])
  simp (disch:=omega) [zz,qK,qF,KW,zDL,h1,h2',Tryz.f19,zDY,h3]
 have h2':(a.reads.length:Int)=b.reads.length:=by omega
 by_cases h3:a.outs.length=b.outs.length
 rotate_left
 ·have h3':¬(a.outs.length:Int)=b.outs.length:=by omega
  have h4:¬a.outs=b.outs:=fun e=>h3 (by rw[e])
  simp (disch:=omega) [zz,qK,qF,qJ,KW,zDL,h1,h2',h3',Tryz.f19,zDY,h4]
 have h3':(a.outs.length:Int)=b.outs.length:=by omega
 simp (disch:=omega) [zz,qK,qF,qJ,KW,zDL,h1,h2',h3']
 refine AT.loop' (α:=Nat) (fun k=>St.of [(2,.loc 2 []),(3,.loc 3 []),(5,.av (.int .i64) (.i .i64 k))] [(2,(qD Tryz.prog 49,qK a)),(3,(qD Tryz.prog 49,qK b))] (fun _=>0) [])
  (fun k=>k≤b.reads.length∧∀i,i<k→∀(h1:i<a.reads.length) (h2:i<b.reads.length),a.reads[i]=b.reads[i]) (fun k=>b.reads.length-k) 0 ?_ ?_ ?_
 ·apply Le.of<;>simp[qU,qG,qO,qH,qP,qK,qF,qI,qJ,qN,qK,qF,qJ,KW,h1]<;>try omega
 ·exact⟨by omega,fun i h=>by omega⟩
 rintro k ⟨hk,hall⟩ KL hN hE
 refine qM (cf:=cf0) laid mixed _ _ _ (by kernel_rfl) ?_
 by_cases hlt:k<b.reads.length
 ·have hlt':(k:Int)<b.reads.length:=by omega
  have hga:=KB qI a.reads k (by omega)
  have hgb:=KB qI b.reads k hlt
  have hlta:(k:Int)<a.reads.length:=by omega
  by_cases hc:a.reads[k]=b.reads[k]
  ·simp (disch:=omega) [zz,hlt',hlta,hga,hgb,qK,qF,GV,hc]
   (repeat with_reducible refine om ?_)
   refine hN _ (k+1) ?_ ⟨by omega,fun i hi h1 h2=>?_⟩ (by omega)
   ·apply Le.of<;>simp[qU,qG,qO,qH,qP,qK,qF,qI,qJ,qN,qK,qF]<;>try omega
   ·rcases Nat.lt_or_ge i k with h|h
    ·exact hall i h h1 h2
    ·have:i=k:=by omega
     subst this;exact hc
  ·have hne:¬a.reads=b.reads:=fun e=>hc (by simp[e])
   simp (disch:=omega) [zz,hlt',hlta,hga,hgb,qK,qF,GV,hc]
   (repeat with_reducible refine om ?_)
   refine hE _ _ (by simp) ?_
   simp (disch:=omega) [zz,Tryz.f19,zDY,hne]
 have hlt':¬(k:Int)<a.reads.length:=by omega
 have hr:a.reads=b.reads:=C0 h2 fun i h1 h2=>hall i (by omega) h1 h2
 simp (disch:=omega) [zz,hlt',qK,qF]
 refine hE _ _ (by simp) ?_
 simp (disch:=omega) [zz,qK,qJ]
 refine AT.loop' (α:=Nat) (fun k=>St.of [(2,.loc 2 []),(3,.loc 3 []),(6,.av (.int .i64) (.i .i64 k))] [(2,(qD Tryz.prog 49,qK a)),(3,(qD Tryz.prog 49,qK b))] (fun _=>0) [])
  (fun k=>k≤b.outs.length∧∀i,i<k→∀(h1:i<a.outs.length) (h2:i<b.outs.length),a.outs[i]=b.outs[i]) (fun k=>b.outs.length-k) 0 ?_ ?_ ?_
 ·apply Le.of<;>simp[qU,qG,qO,qH,qP,qK,qF,qI,qJ,qN,qK,qF,qJ]<;>try omega
 ·exact⟨by omega,fun i h=>by omega⟩
 rintro k2 ⟨hk2,hall2⟩ KL2 hN2 hE2
 refine qM (cf:=cf0) laid mixed _ _ _ (by kernel_rfl) ?_
 by_cases hlt2:k2<b.outs.length
 ·have hlt2':(k2:Int)<b.outs.length:=by omega
  have hga:=KB qN a.outs k2 (by omega)
  have hgb:=KB qN b.outs k2 hlt2
  have hlta:(k2:Int)<a.outs.length:=by omega
  by_cases hc:a.outs[k2]=b.outs[k2]
  ·simp (disch:=omega) [zz,hlt2',hlta,hga,hgb,qK,qJ,zDP,hc]
   (repeat with_reducible refine om ?_)
   refine hN2 _ (k2+1) ?_ ⟨by omega,fun i hi h1 h2=>?_⟩ (by omega)
   ·apply Le.of<;>simp[qU,qG,qO,qH,qP,qK,qF,qI,qJ,qN,qK,qJ]<;>try omega
   ·rcases Nat.lt_or_ge i k2 with h|h
    ·exact hall2 i h h1 h2
    ·have:i=k2:=by omega
     subst this;exact hc
  ·have hne:¬a.outs=b.outs:=fun e=>hc (by simp[e])
   simp (disch:=omega) [zz,hlt2',hlta,hga,hgb,qK,qJ,zDP,hc]
   (repeat with_reducible refine om ?_)
   refine hE2 _ _ (by simp) ?_
   simp (disch:=omega) [zz,Tryz.f19,zDY,hne]
 ·have hlt2':¬(k2:Int)<a.outs.length:=by omega
  have ho:a.outs=b.outs:=C0 h3 fun i h1 h2=>hall2 i (by omega) h1 h2
  simp (disch:=omega) [zz,hlt2',qK,qJ]
  refine hE2 _ _ (by simp) ?_
  simp (disch:=omega) [zz,Tryz.f19,zDY,hr,ho,h1]
end Go.Proofs.YtcioeonlclpacaaGreatDoor
end
