/- An action by what is known: the program. No condition beyond each theorem's own. -/
import Derived.Test.YthgocigdldgpgaaGreatDoorFW0ToFW1
import Derived.Test.YthgocigdldgpgaaGreatDoorBL1ToBR1
import Derived.Test.YthgocigdldgpgaaGreatDoorP10ToK6
set_option linter.unusedSimpArgs false
set_option linter.unusedVariables false
set_option linter.unusedSectionVars false
section
set_option maxRecDepth 100000
namespace Go.Proofs.YthgocigdldgpgaaGreatDoor
open Go Go.Ab
open Classical
variable [Sel] [SelPow] [SelMax]
@[simp] theorem zx1:qZ Tryz.prog 30=true:=by kernel_rfl
@[simp] theorem zxo:z8 Tryz.prog (.func 30)=false:=q9 zx1
@[simp] theorem zx3:qZ Tryz.prog 67=true:=by kernel_rfl
@[simp] theorem zxn:z8 Tryz.prog (.func 67)=false:=q9 zx3
@[simp] theorem zx0:qZ Tryz.prog 70=true:=by kernel_rfl
@[simp] theorem zxh:z8 Tryz.prog (.func 70)=false:=q9 zx0
@[simp] theorem zwQ:qZ Tryz.prog 72=true:=by kernel_rfl
@[simp] theorem zxz:z8 Tryz.prog (.func 72)=false:=q9 zwQ
@[simp] theorem zx7:qZ Tryz.prog 66=true:=by kernel_rfl
@[simp] theorem zxg:z8 Tryz.prog (.func 66)=false:=q9 zx7
@[simp] theorem zwS:qZ Tryz.prog 71=true:=by kernel_rfl
@[simp] theorem zxs:z8 Tryz.prog (.func 71)=false:=q9 zwS
def zvX (f:AV) (Hs:q8) (g:KnV→Bool) (ts:List KnV):Prop:=Hs.er=Hs∧f.er=f∧∀x∈ts,VC1 f [.av KnT (zH x)] Hs fun r H'=>r=.av .bool (.b (g x))∧H'=Hs
set_option maxHeartbeats 4000000 in
theorem zw4 (g:KnV→Bool) (f:AV) (Hs:q8) (ts:List KnV) (hf:zvX f Hs g ts) (hn:ts.length≤1000000000) :
  q7 Tryz.prog 71 [.av (.slice 55) (zL ts),.av .func f] Hs
   fun r H'=>r=.av (.int .i64) (.i .i64 (J7 g ts))∧H'=Hs:=by
 obtain⟨ho,hfe,hff⟩:=hf
 refine q7.of_vc laid mixed Tryz.func71 rfl cf0 (by kernel_rfl) (by simp[Tryz.ntmps71]) fun imm0 w0=>?_
 (simp (maxSteps:=2000000) (disch:=first|omega|assumption) [zz,-List.reduceReplicate,zL])
 refine AT.loop' (α:=Nat) (fun k=>St.of [(0,.av (.slice 55) (.sl .no (ts.map zH))),(1,.av .func f),(7,.av (.int .i64) (.i .i64 ts.length)),(8,.av (.int .i64) (.i .i64 k))] [] (fun _=>0) Hs)
  (fun k=>k≤ts.length∧∀x∈ts.take k,g x=false) (fun k=>ts.length-k) 0 ?_ ?_ ?_
 ·refine Le.of ?_ ?_ ?_ ?_ ?_<;>simp[qU,qG]
 ·simp
 rintro k ⟨hk',hpk⟩ KL hN hE
 refine qM (cf:=cf0) laid mixed _ _ _ (by kernel_rfl) ?_
 by_cases hlt:k<ts.length
 ·have hlt':(k:Int)<ts.length:=by omega
  have hg:=KB zH ts k hlt
  (simp (maxSteps:=2000000) (disch:=first|omega|assumption) [zz,-List.reduceReplicate,hlt',hg])
  refine ZG (R:=fun r' H'=>r'=.av .bool (.b (g ts[k]))∧H'=Hs) Hs [] (by simp) ho (by simp[qQ]) (hff _ (List.getElem_mem hlt)) ?_
  rintro r' H' ⟨rfl,rfl⟩ _
  refine⟨H',by simpa using HSub.refl _,?_⟩
  by_cases hp:g ts[k]=true
  ·(simp (maxSteps:=2000000) (disch:=first|omega|assumption) [zz,-List.reduceReplicate,hp])
   refine hE _ _ (by simp) ?_
   (simp (maxSteps:=2000000) (disch:=first|omega|assumption) [zz,-List.reduceReplicate,Tryz.f71,uL hlt hpk hp,ho])
  ·(simp (maxSteps:=2000000) (disch:=first|omega|assumption) [zz,-List.reduceReplicate,hp])
   refine hN _ (k+1) ?_ ⟨by omega,by rw[Z2 hlt];exact⟨hpk,by simpa using hp⟩⟩ (by omega)
   refine Le.of ?_ ?_ ?_ ?_ ?_<;>simp[qU,qG]
 ·have hlt':¬(k:Int)<ts.length:=by omega
  (simp (maxSteps:=2000000) (disch:=first|omega|assumption) [zz,-List.reduceReplicate,hlt'])
  refine hE _ _ (by simp) ?_
  rw[List.take_of_length_le (by omega)]at hpk
  (simp (maxSteps:=2000000) (disch:=first|omega|assumption) [zz,-List.reduceReplicate,Tryz.f71,x9 hpk,ho])
theorem zwr (x:KnV) (h:x.data.length≤65536):PC Tryz.prog 67 [.av KnT (zH x)] (.av .bool (.b false)):=by
 refine PC.of <| q7.of_vc laid mixed Tryz.func67 rfl cf0 (by kernel_rfl) (by simp[Tryz.ntmps67]) fun imm0 w0=>?_
 (simp (maxSteps:=2000000) (disch:=first|omega|assumption) [zz,-List.reduceReplicate,zH])
 have h':¬(65536:Int)<x.data.length:=by omega
 cases hi:x.is
 ·(simp (maxSteps:=2000000) (disch:=first|omega|assumption) [zz,-List.reduceReplicate,hi,Tryz.f67])
 ·(simp (maxSteps:=2000000) (disch:=first|omega|assumption) [zz,-List.reduceReplicate,hi,h',Tryz.f67])
theorem zwk (ts:List KnV) (hn:ts.length≤1000000000) (hd:∀k∈ts,k.data.length≤65536):PC Tryz.prog 66 [.av (.slice 55) (zL ts),.av .func (.fn 67 [])] (.av .bool (.b false)):=by
 have hf:zvX (.fn 67 []) [] (fun _=>false) ts:=⟨rfl,rfl,fun x hx=>⟨[],rfl,by simp,by have h9:=zwr x (hd x hx);unfold PC at h9;simpa[TV.er,AV.er,(vU x).1]using h9⟩⟩
 have hef:=YO ts
 refine PC.of <| q7.of_vc laid mixed Tryz.func66 rfl cf0 (by kernel_rfl) (by simp[Tryz.ntmps66]) fun imm0 w0=>?_
 (simp (maxSteps:=2000000) (disch:=first|omega|assumption) [zz,-List.reduceReplicate])
 refine qE (R:=fun r' H'=>r'=.av (.int .i64) (.i .i64 (J7 (fun _:KnV=>false) ts))∧H'=[]) [] [] (by simp) rfl (by simp[qQ]) (by simp) ?_ ?_
 ·have:=zw4 _ _ _ ts hf hn
  simpa[TV.er,AV.er,hef]using this
 rintro r' H' ⟨rfl,rfl⟩ _
 refine⟨[],by simpa using HSub.refl _,?_⟩
 have he:J7 (fun _:KnV=>false) ts=-1:=x9 fun _ _=>rfl
 rw[he]
 (simp (maxSteps:=2000000) (disch:=first|omega|assumption) [zz,-List.reduceReplicate,Tryz.f66])
theorem zwn (b:Nat) (p:Txt) (x:KnV):q7 Tryz.prog 72 [.av KnT (zH x),.av .ptr (.ptr b .str [])] [(b,zF p)] fun r H'=>r=.av .bool (.b (decide (x.path=p)))∧H'=[(b,zF p)]:=by
 refine q7.of_vc laid mixed Tryz.func72 rfl cf0 (by kernel_rfl) (by simp[Tryz.ntmps72]) fun imm0 w0=>?_
 (simp (maxSteps:=2000000) (disch:=first|omega|assumption) [zz,-List.reduceReplicate,zF,zH])
 (simp (maxSteps:=2000000) (disch:=first|omega|assumption) [zz,-List.reduceReplicate,Tryz.f72])
noncomputable def zuQ (ks:List KnV):HObj:=.var (.slice 55) (zL ks)
theorem zvV (ks:List KnV):(zuQ ks).er=zuQ ks:=by simp[zuQ,HObj.er_var,AV.erk,zL,AV.ers_eq,Function.comp_def,vU]
set_option maxHeartbeats 4000000 in
theorem zwA (bf:Nat) (ks:List KnV) (hn:ks.length≤1000000000) (p:Txt) :
  q7 Tryz.prog 70 [.av .str (.s p),.av .ptr (.ptr bf (.slice 55) [])] [(bf,zuQ ks)] fun r H'=>r=.tup [(KnT,zH ((zQ ks p).getD ⟨[],false,[]⟩)),(.bool,.b (zQ ks p).isSome)]∧H'=[(bf,zuQ ks)]:=by
 have hef:=YO ks
 have hbe:=zvV ks
 refine q7.sub (R:=fun r H'=>r=.tup [(KnT,zH ((zQ ks p).getD ⟨[],false,[]⟩)),(.bool,.b (zQ ks p).isSome)]∧∃H2,Ab.HSub H2 H'∧H2=[(bf,zuQ ks)]) ?_ fun y H' ⟨h1,H2,h2,h3⟩ _=>⟨H2,h2,h1,h3⟩
 refine q7.of_vc laid mixed Tryz.func70 rfl zxa (by kernel_rfl) (by simp[Tryz.ntmps70]) fun imm0 w0=>?_
 (simp (maxSteps:=2000000) (disch:=first|omega|assumption) [zz,-List.reduceReplicate])
 intro b m1
 have m1':¬bf=b:=fun e=>m1 e.symm
 rw[show zuQ ks=.var (.slice 55) (zL ks) from rfl]at hbe ⊢
 (simp (maxSteps:=2000000) (disch:=first|omega|assumption) [zz,-List.reduceReplicate,m1,m1'])
 have hf:zvX (.fn 72 [.ptr b .str []]) [(b,zF p)] (fun x=>decide (x.path=p)) ks:=⟨rfl,rfl,fun x hx=>⟨_,rfl,by simp,by simpa[TV.er,AV.er,(vU x).1]using zwn b p x⟩⟩
 refine qE (R:=fun r' H'=>r'=.av (.int .i64) (.i .i64 (J7 (fun x:KnV=>decide (x.path=p)) ks))∧H'=[(b,zF p)]) [(b,zF p)] [(bf,zuQ ks)] (by simp[zuQ,zF]) rfl (by simp[qQ]) (by simp) ?_ ?_
 ·have:=zw4 _ _ _ ks hf hn
  simpa[TV.er,AV.er,hef,q8.er_cons,zF,HObj.er_var,AV.erk]using this
 rintro r' H' ⟨rfl,rfl⟩ _
 refine⟨_,HSub.refl _,?_⟩
 rcases ze8 (fun x:KnV=>decide (x.path=p)) ks with⟨he,hf⟩|⟨i,hi,he,hf⟩
 ·have ht:zQ ks p=none:=hf
  rw[he,ht]
  (simp (maxSteps:=2000000) (disch:=first|omega|assumption) [zz,-List.reduceReplicate,zF,zuQ,m1,m1',hbe,zH,Tryz.f70])
  exact HSub.of_sub ((List.Sublist.refl _).cons _)
 ·have ht:zQ ks p=some ks[i]:=hf
  have hg:=pZ ks i hi
  have hi':(i:Int)<ks.length:=by omega
  have hi0:¬(i:Int)<0:=by omega
  have hke:(zH ks[i]).er=zH ks[i]:=(vU _).1
  have hee:AV.ers (ks.map zH)=ks.map zH:=by simp[AV.ers_eq,Function.comp_def,vU]
  rw[he,ht]
  (simp (maxSteps:=2000000) (disch:=first|omega|assumption) [zz,-List.reduceReplicate,zF,zuQ,m1,m1',hi',hi0,zL,hg])
  (simp (maxSteps:=2000000) (disch:=first|omega|assumption) [zz,-List.reduceReplicate,hee,hke,Tryz.f70])
  exact HSub.of_sub ((List.Sublist.refl _).cons _)
noncomputable def zvY (a:xW) (ks:List KnV):AV × zcy × Int:=match j7 a.tool with
 | .error en=>(zv5,zvh,en.1)
 | .ok cs=>(zvg (zuJ (zQ ks) a cs),(yD (zuJ (zQ ks) a cs)).1,0)
noncomputable def zvQ (x:AV × zcy × Int):TV:=.tup [(zwl,x.1),(qD Tryz.prog 41,zI x.2.1),(.int .i64,.i .i64 x.2.2)]
theorem zvT {ks:List KnV} (hd:∀k∈ks,k.data.length≤65536):Ans (zQ ks):=fun p k hk=>⟨(KP hk).2,hd k (KP hk).1⟩
theorem zwE {a:xW} (ha:zky a) {cs:List CmdV} (hcs:j7 a.tool=.ok cs) {ks:List KnV} (hd:∀k∈ks,k.data.length≤65536) :
  goF (zQ ks) 600 (ZR a.env a.outs (jI a) cs)=some (zuJ (zQ ks) a cs)∧((zuJ (zQ ks) a cs).over=true∨zQ ks (zuJ (zQ ks) a cs).asks=none)∧Z4 a.env cs a.outs (jI a) [] (ZR a.env a.outs (jI a) cs):=by
 obtain⟨b',g1,g2,g3⟩:=zw2 hcs (by have:=ha.be;omega:a.env.length≤1000000000) ha.bev (outs:=a.outs) (may:=jI a) (zvT hd)
 have:zuJ (zQ ks) a cs=b':=by unfold zuJ;rw[g1];rfl
 rw[this]
 exact⟨g1,g3,g2⟩
set_option maxHeartbeats 16000000 in
theorem zwD (a:xW) (hab:zky a) (ks:List KnV) (hn:ks.length≤1000000000) (hd:∀k∈ks,k.data.length≤65536) :
  PC Tryz.prog 30 [.av UI (kT a),.av (.slice 55) (zL ks)] (zvQ (zvY a ks)):=by
 have hae:=YB a
 have hef:=YO ks
 have hfb:=zvV ks
 have hlo:=zwk ks hn hd
 cases hcv:j7 a.tool with
 | error en =>
  obtain⟨e,n⟩:=en
  have hv:zvY a ks=(zv5,zvh,e):=by unfold zvY;rw[hcv]
  have hne:¬e=0:=by rcases Z8 hcv with h|h<;>omega
  have hbe:=zvu a hab false hcv
  rw[hv]
  obtain⟨A,hA⟩:∃A,A=kT a:=⟨_,rfl⟩
  rw[←hA]at hbe hae ⊢
  refine PC.of <| q7.of_vc laid mixed Tryz.func30 rfl zwh (by kernel_rfl) (by simp[Tryz.ntmps30]) fun imm0 w0=>?_
  (simp (maxSteps:=2000000) (disch:=first|omega|assumption) [zz,-List.reduceReplicate])
  intro bf
  refine qL hlo rfl rfl (by simp) (by simp[qS,TV.er,AV.er,hef]) ?_
  (simp (maxSteps:=2000000) (disch:=first|omega|assumption) [zz,-List.reduceReplicate])
  refine qL hbe rfl rfl (by simp) (by simp[qS,TV.er,AV.er,hae]) ?_
  (simp (maxSteps:=2000000) (disch:=first|omega|assumption) [zz,-List.reduceReplicate,hne,zvQ,zv5,zvh,zI,zU,qF,Tryz.f30])
 | ok cs =>
  obtain⟨hgo,hov,hbk⟩:=zwE hab hcv hd
  obtain⟨b',hb'⟩:∃b',b'=zuJ (zQ ks) a cs:=⟨_,rfl⟩
  rw[←hb']at hgo hov
  have hv:zvY a ks=(zvg b',(yD b').1,0):=by unfold zvY;rw[hcv,hb']
  have hbe:=zvA a hab hcv
  rw[hv]
  obtain⟨A,hA⟩:∃A,A=kT a:=⟨_,rfl⟩
  rw[←hA]at hbe hae ⊢
  refine PC.of <| q7.of_vc laid mixed Tryz.func30 rfl zwh (by kernel_rfl) (by simp[Tryz.ntmps30]) fun imm0 w0=>?_
  (simp (maxSteps:=2000000) (disch:=first|omega|assumption) [zz,-List.reduceReplicate])
  intro bf
  refine qL hlo rfl rfl (by simp) (by simp[qS,TV.er,AV.er,hef]) ?_
  (simp (maxSteps:=2000000) (disch:=first|omega|assumption) [zz,-List.reduceReplicate])
  refine qE (R:=fun r H'=>∃B,r=.tup [(.ptr,.ptr B KD []),(.int .i64,.i .i64 0)]∧jJ B (ZR a.env a.outs (jI a) cs) H') [] [(bf,zuQ ks)] (by simp[zuQ]) rfl (by simp[qQ]) (by simp) ?_ ?_
  ·simpa[TV.er,AV.er,hae,q8.er_nil]using hbe
  rintro r H ⟨B,rfl,hH⟩ _
  have hHe:=hH.er
  refine⟨H++[(bf,zuQ ks)],HSub.refl _,?_⟩
  (simp (maxSteps:=2000000) (disch:=first|omega|assumption) [zz,-List.reduceReplicate])
  have hans:zwT (.fn 70 [.ptr bf (.slice 55) []]) [(bf,zuQ ks)] (zQ ks):=⟨by simp[q8.er_cons,hfb],rfl,fun p hp=>⟨_,rfl,by simp,by simpa[TV.er,AV.er]using zwA bf ks hn p⟩⟩
  refine qE (R:=fun y H'=>y=zv9 b'∧(∃H2,H'=H2++[(bf,zuQ ks)]∧jJ B b' H2)∧∃kn',Z4 a.env cs a.outs (jI a) kn' b') (H++[(bf,zuQ ks)]) [] (by simp) rfl (by simp[qQ]) (by simp) ?_ ?_
  ·rw[q8.er_app,hHe,q8.er_cons,hfb,q8.er_nil]
   have:=zvM B _ _ _ (zvT hd) hans hH hbk hab.bo hgo
   simpa[TV.er,AV.er]using this
  rintro y H1 ⟨rfl,_,_⟩ _
  refine⟨H1,by simpa using HSub.refl _,?_⟩
  (simp (maxSteps:=2000000) (disch:=first|omega|assumption) [zz,-List.reduceReplicate,zv9,zvQ])
  (repeat with_reducible refine om ?_)
  have hwe:(zvg b').er=zvg b':=by
   unfold zvg
   split<;>simp[zv5,zvN,AV.er,AV.ers]
  (simp (maxSteps:=2000000) (disch:=first|omega|assumption) [zz,-List.reduceReplicate,hwe,zvQ,Tryz.f30])
@[simp] theorem zwO:qZ Tryz.prog 29=true:=by kernel_rfl
@[simp] theorem zxw:z8 Tryz.prog (.func 29)=false:=q9 zwO
@[simp] theorem zx4:qZ Tryz.prog 34=true:=by kernel_rfl
@[simp] theorem zxf:z8 Tryz.prog (.func 34)=false:=q9 zx4
@[simp] theorem zwP:qZ Tryz.prog 10=true:=by kernel_rfl
@[simp] theorem zxt:z8 Tryz.prog (.func 10)=false:=q9 zwP
@[simp] theorem zxc:qZ Tryz.prog 9=true:=by kernel_rfl
@[simp] theorem zxC:z8 Tryz.prog (.func 9)=false:=q9 zxc
@[simp] theorem zxb:qZ Tryz.prog 8=true:=by kernel_rfl
@[simp] theorem zxB:z8 Tryz.prog (.func 8)=false:=q9 zxb
@[simp] theorem zwU:qZ Tryz.prog 31=true:=by kernel_rfl
@[simp] theorem zxi:z8 Tryz.prog (.func 31)=false:=q9 zwU
@[simp] theorem zx5:qZ Tryz.prog 33=true:=by kernel_rfl
@[simp] theorem zxm:z8 Tryz.prog (.func 33)=false:=q9 zx5
@[simp] theorem zwX:qZ Tryz.prog 78=true:=by kernel_rfl
@[simp] theorem zxq:z8 Tryz.prog (.func 78)=false:=q9 zwX
@[simp] theorem zwV:qZ Tryz.prog 36=true:=by kernel_rfl
@[simp] theorem zxu:z8 Tryz.prog (.func 36)=false:=q9 zwV
@[simp] theorem zwL:qZ Tryz.prog 35=true:=by kernel_rfl
@[simp] theorem zxy:z8 Tryz.prog (.func 35)=false:=q9 zwL
def fxTool:Txt:=[114,101,97,100,32,97,10,119,114,105,116,101,32,111,117,116,47,111]
def fxAct:xW:=⟨[],[],fxTool,[],[[97]],[],[QG]⟩
theorem zvr:z7 fxTool=z7 alTool:=by rw[PU];decide
theorem zx9:∃cs,j7 fxTool=.ok cs:=by
 obtain⟨cs,h⟩:=zpF
 have h1:¬(65536<fxTool.length∨400<(z7 fxTool).length):=by rw[zvr,PU];decide
 have h2:¬(65536<alTool.length∨400<(z7 alTool).length):=by rw[PU];decide
 unfold j7 at h ⊢
 rw[if_neg h1,zvr]
 rw[if_neg h2]at h
 exact⟨cs,h⟩
theorem zwZ:jI fxAct [97]=true:=by
 simp[jI,pJ,fxAct,QG]
theorem zwF:zky fxAct:=by
 refine⟨by decide,by decide,by simp[fxAct],by decide,by decide,?_,by decide⟩
 intro x hx
 simp[fxAct]at hx
theorem zxj:zvY fxAct []=(zvN [97],zvh,0):=by
 obtain⟨cs,hcs⟩:=zx9
 have h0:=zbj hcs (env:=[]) (by simp) (by simp) [QG] (jI fxAct)
 obtain⟨b,hb⟩:∃b,b=ZR [] [QG] (jI fxAct) cs:=⟨_,rfl⟩
 rw[←hb]at h0
 obtain⟨_,i,hi⟩:=XU hcs
 have hfl:zh5 [] cs (z7 fxTool):=⟨⟨i,hi⟩⟩
 obtain⟨f1,f2⟩:=zkA
 rw[←zvr]at f1 f2
 obtain⟨wr,hs⟩:=h0.s
 have hw:b.asks=[97]∧b.over=false:=by
  cases (hs.far hfl).1 with
  | waits h1 h2 h3 h4 h5 h6=>rw[f1]at h3;exact⟨h3,h4⟩
  | read h1 h2=>rw[f1]at h2;rw[zwZ]at h2;cases h2
  | ended h1=>rw[f1]at h1;cases h1
  | short h1=>rw[f1]at h1;cases h1
  | failed h1=>rw[f1]at h1;cases h1
  | wrote wr d h1=>rw[f2]at h1;simp at h1
 have ho:zuJ (zQ []) fxAct cs=b:=by
  have hg:goF (zQ []) 600 b=some b:=by
   rw[goF,if_neg (by rw[hw.2];decide)]
   rfl
  unfold zuJ
  rw[show ZR fxAct.env fxAct.outs (jI fxAct) cs=b from hb.symm,hg]
  rfl
 unfold zvY
 rw[show fxAct.tool=fxTool from rfl,hcs]
 simp only[ho]
 rw[KN hw.2]
 simp[zvg,hw,zvh]
set_option maxHeartbeats 16000000 in
theorem zvO:PC Tryz.prog 29 [] (.av .bool (.b true)):=by
 have ht:=zwD fxAct zwF [] (by simp) (by simp)
 rw[zxj]at ht
 have hte:fxTool=[114,101,97,100,32,97,10,119,114,105,116,101,32,111,117,116,47,111]:=rfl
 have hae:kT fxAct=.agg [.agg [.s [],.s []],.s fxTool,.sl .no [],.sl .no [.s [97]],.sl .no [],.sl .no [.s [111,117,116,47,111]]]:=rfl
 have hke:zL []=.sl .no []:=rfl
 rw[hae,hte,hke]at ht
 unfold zvQ at ht
 refine PC.of <| q7.of_vc laid mixed Tryz.func29 rfl cf0 (by kernel_rfl) (by simp[Tryz.ntmps29]) fun imm0 w0=>?_
 (simp (maxSteps:=2000000) (disch:=first|omega|assumption) [zz,-List.reduceReplicate])
 refine qL ht rfl rfl (by simp) (by simp[qS,TV.er,AV.er,AV.ers]) ?_
 (simp (maxSteps:=2000000) (disch:=first|omega|assumption) [zz,-List.reduceReplicate,zvN,zvh,zI,Tryz.f29])
theorem zya {f:Txt→Option KnV} (hf:Ans f):∀(n:Nat) {b b':BoxV},goF f n b=some b'→∀r∈b'.reads,r∈b.reads∨∃k,f r.path=some k
 | 0,_,_,h=>by cases h
 | n+1,b,b',h=>by
  rw[goF]at h
  by_cases ho:b.over=true
  ·rw[if_pos ho]at h;cases h;exact fun r hr=>.inl hr
  rw[if_neg ho]at h
  have ho':b.over=false:=by simpa using ho
  cases hk:f b.asks with
  | none=>rw[hk]at h;cases h;exact fun r hr=>.inl hr
  | some k =>
   rw[hk]at h
   simp only at h
   obtain⟨hk1,hk2⟩:=hf _ _ hk
   intro r hr
   rcases zya hf n h r hr with h1|h1
   ·rw[zuS ho' hk1 hk2]at h1
    rcases List.mem_append.1 h1 with h1|h1
    ·exact .inl h1
    ·rw[List.mem_singleton.1 h1]
     exact .inr ⟨k,by rw[show (J9 k).path=b.asks from hk1];exact hk⟩
   ·exact .inr h1
theorem zxT (ks:List KnV) (m:KnV) (p:Txt):zQ (ks++[m]) p=(zQ ks p).or (if m.path=p then some m else none):=by
 unfold zQ
 rw[List.find?_append]
 by_cases h:m.path=p<;>simp[h]
theorem zyj {a:xW} (ha:zky a) {ks:List KnV} {m:KnV} (hd:∀k∈ks,k.data.length≤65536) (hm:m.data.length≤65536) {cs:List CmdV} (hcs:j7 a.tool=.ok cs) :
  ∃b1 b2,zvY a ks=(zvg b1,(yD b1).1,0)∧zvY a (ks++[m])=(zvg b2,(yD b2).1,0)∧Z4 a.env cs a.outs (jI a) [] (ZR a.env a.outs (jI a) cs)∧(∃kn,Z4 a.env cs a.outs (jI a) kn b1)∧((b1.over=true∨b1.asks≠m.path)→b2=b1)∧(b1.over=false→b1.asks=m.path→b2.over=true∨b2.asks≠m.path):=by
 have hd2:∀k∈ks++[m],k.data.length≤65536:=fun k hk=>by
  rcases List.mem_append.1 hk with h|h
  ·exact hd k h
  ·rw[List.mem_singleton.1 h];exact hm
 obtain⟨g1,o1,hk1⟩:=zwE ha hcs hd
 obtain⟨g2,o2,_⟩:=zwE ha hcs hd2
 have e1:zvY a ks=(zvg (zuJ (zQ ks) a cs),(yD (zuJ (zQ ks) a cs)).1,0):=by unfold zvY;rw[hcs]
 have e2:zvY a (ks++[m])=(zvg (zuJ (zQ (ks++[m])) a cs),(yD (zuJ (zQ (ks++[m])) a cs)).1,0):=by unfold zvY;rw[hcs]
 refine⟨_,_,e1,e2,hk1,zwK (zvT hd) 600 hk1 g1,fun hc=>?_,fun ho hp=>?_⟩
 ·have hn0:(ZR a.env a.outs (jI a) cs).reads=[]:=by
   obtain⟨w,h⟩:=zec a.env a.outs (jI a) cs (y8 hcs)
   exact h.reads
  have h3:=zvD (g:=zQ (ks++[m])) (zvT hd) 600 g1 (by
   by_cases ho:(zuJ (zQ ks) a cs).over=true
   ·exact .inl ho
   ·right
    rw[zxT,o1.resolve_left ho,if_neg (fun e=>(hc.resolve_left ho) e.symm)]
    rfl) (by
   rintro p ⟨r,hr,rfl⟩
   rcases zya (zvT hd) 600 g1 r hr with h|⟨k,h⟩
   ·rw[hn0]at h;cases h
   ·rw[zxT,h];rfl)
  rw[g2]at h3
  exact Option.some.inj h3
 ·by_cases h2:(zuJ (zQ (ks++[m])) a cs).over=true
  ·exact .inl h2
  ·right
   intro e
   have h4:=o2.resolve_left h2
   rw[e,zxT]at h4
   cases h5:zQ ks m.path with
   | none=>rw[h5]at h4;simp at h4
   | some k=>rw[h5]at h4;simp at h4
end Go.Proofs.YthgocigdldgpgaaGreatDoor
end
section
set_option maxRecDepth 100000
namespace Go.Proofs.YthgocigdldgpgaaGreatDoor
open Go Go.Ab
open Classical
variable [Sel]
theorem zh6 (p:List (List UInt8)) (k:Nat) (h:k<p.length):(strs p)[k]?=some (.s p[k]):=by simp[strs,List.getElem?_eq_getElem h]
set_option maxHeartbeats 8000000 in
theorem zl8 (l:List UInt8) (hl:l.length≤1000000000):PC Tryz.prog 79 [.av .str (.s l)] (.av .bool (.b (yV l))):=by
 refine PC.of <| q7.of_vc laid mixed Tryz.func79 rfl cf0 (by kernel_rfl) (by simp[Tryz.ntmps79]) fun imm0 w0=>?_
 (simp (maxSteps:=2000000) (disch:=first|omega|assumption) [zz])
 refine qL (u9 l hl) rfl rfl (by simp) (by simp[qS,TV.er,AV.er]) ?_
 (simp (maxSteps:=2000000) (disch:=first|omega|assumption) [zz])
 have hle:=QQ 47 l
 obtain⟨p,hp⟩:∃p,p=qT 47 l:=⟨_,rfl⟩
 have hlen:∀x∈p,x.length≤l.length:=fun x hx=>kU 47 l x (by rw[←hp];exact hx)
 rw[←hp]at hle ⊢
 refine AT.loop' (α:=Nat) (fun k=>St.of [(3,.av (.slice 9) (.sl .no (strs p))),(4,.av (.int .i64) (.i .i64 k))] [] (fun _=>0) []) (fun k=>k≤p.length∧∀x∈p.take k,Q0 x=true) (fun k=>p.length-k) 0 ?_ ?_ ?_
 ·refine Le.of ?_ ?_ ?_ ?_ ?_<;>simp[qU,qG,qO,qH,qP,qK,qF,qI,qJ,qN,zX]<;>try omega
 ·simp
 rintro k ⟨hk,hall⟩ KL hN hE
 refine qM (cf:=cf0) laid mixed _ _ _ (by kernel_rfl) ?_
 by_cases hlt:k<p.length
 ·have hlt':(k:Int)<p.length:=by omega
  have hx:=hlen p[k] (List.getElem_mem _)
  have hg:=zh6 p k hlt
  (simp (maxSteps:=2000000) (disch:=first|omega|assumption) [zz,hlt',hg])
  refine qL (zcA p[k] (by omega)) rfl rfl (by simp) (by simp[qS,TV.er,AV.er]) ?_
  cases hpv:Q0 p[k]
  ·(simp (maxSteps:=2000000) (disch:=first|omega|assumption) [zz])
   refine hE _ _ (by simp) ?_
   have:yV l=false:=by
    simp only[yV,Bool.and_eq_false_iff]
    right
    rw[List.all_eq_false]
    exact⟨p[k],by rw[←hp];exact List.getElem_mem _,by simp[hpv]⟩
   (simp (maxSteps:=2000000) (disch:=first|omega|assumption) [zz,Tryz.f79,this])
  ·(simp (maxSteps:=2000000) (disch:=first|omega|assumption) [zz])
   refine hN _ (k+1) ?_ ⟨by omega,by rw[Z2 hlt];exact⟨hall,hpv⟩⟩ (by omega)
   refine Le.of ?_ ?_ ?_ ?_ ?_<;>simp[qU,qG,qO,qH,qP,qK,qF,qI,qJ,qN,zX]<;>try omega
 ·have hlt':¬(k:Int)<p.length:=by omega
  (simp (maxSteps:=2000000) (disch:=first|omega|assumption) [zz,hlt'])
  refine hE _ _ (by simp) ?_
  rw[List.take_of_length_le (by omega)]at hall
  have hal:p.all Q0=true:=by simpa using hall
  (simp (maxSteps:=2000000) (disch:=first|omega|assumption) [zz,Tryz.f79,yV,←hp,hal])
  omega
end Go.Proofs.YthgocigdldgpgaaGreatDoor
end
