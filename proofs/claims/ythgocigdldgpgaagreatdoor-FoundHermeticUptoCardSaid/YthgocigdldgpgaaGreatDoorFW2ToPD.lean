/- An action by what is known: the program. No condition beyond each theorem's own. -/
import Derived.Test.YthgocigdldgpgaaGreatDoorFW0ToFW1
import Derived.Test.YthgocigdldgpgaaGreatDoorBL1ToBR1
import Derived.Test.YthgocigdldgpgaaGreatDoorB0
import Derived.Test.YthgocigdldgpgaaGreatDoorAbXToY
set_option linter.unusedSimpArgs false
set_option linter.unusedVariables false
set_option linter.unusedSectionVars false
section
set_option maxRecDepth 100000
namespace Go.Proofs.YthgocigdldgpgaaGreatDoor
open Go Go.Ab
open Classical
variable [Sel] [SelPow] [SelMax]
@[simp] theorem zx1:qZ Tryz.prog 30=true:=by kernel_rfl
@[simp] theorem zxo:z8 Tryz.prog (.func 30)=false:=q9 zx1
@[simp] theorem zx3:qZ Tryz.prog 67=true:=by kernel_rfl
@[simp] theorem zxn:z8 Tryz.prog (.func 67)=false:=q9 zx3
@[simp] theorem zx0:qZ Tryz.prog 70=true:=by kernel_rfl
@[simp] theorem zxh:z8 Tryz.prog (.func 70)=false:=q9 zx0
@[simp] theorem zwQ:qZ Tryz.prog 72=true:=by kernel_rfl
@[simp] theorem zxz:z8 Tryz.prog (.func 72)=false:=q9 zwQ
@[simp] theorem zx7:qZ Tryz.prog 66=true:=by kernel_rfl
@[simp] theorem zxg:z8 Tryz.prog (.func 66)=false:=q9 zx7
@[simp] theorem zwS:qZ Tryz.prog 71=true:=by kernel_rfl
@[simp] theorem zxs:z8 Tryz.prog (.func 71)=false:=q9 zwS
def zvX (f:AV) (Hs:q8) (g:KnV→Bool) (ts:List KnV):Prop:=Hs.er=Hs∧f.er=f∧∀x∈ts,VC1 f [.av KnT (zH x)] Hs fun r H'=>r=.av .bool (.b (g x))∧H'=Hs
set_option maxHeartbeats 4000000 in
theorem zw4 (g:KnV→Bool) (f:AV) (Hs:q8) (ts:List KnV) (hf:zvX f Hs g ts) (hn:ts.length≤1000000000) :
  q7 Tryz.prog 71 [.av (.slice 55) (zL ts),.av .func f] Hs
   fun r H'=>r=.av (.int .i64) (.i .i64 (J7 g ts))∧H'=Hs:=by
 obtain⟨ho,hfe,hff⟩:=hf
 refine q7.of_vc laid mixed Tryz.func71 rfl cf0 (by kernel_rfl) (by simp[Tryz.ntmps71]) fun imm0 w0=>?_
 (simp (maxSteps:=2000000) (disch:=first|omega|assumption) [zz,-List.reduceReplicate,zL])
 refine AT.loop' (α:=Nat) (fun k=>St.of [(0,.av (.slice 55) (.sl .no (ts.map zH))),(1,.av .func f),(7,.av (.int .i64) (.i .i64 ts.length)),(8,.av (.int .i64) (.i .i64 k))] [] (fun _=>0) Hs)
  (fun k=>k≤ts.length∧∀x∈ts.take k,g x=false) (fun k=>ts.length-k) 0 ?_ ?_ ?_
 ·refine Le.of ?_ ?_ ?_ ?_ ?_<;>simp[qU,qG]
 ·simp
 rintro k ⟨hk',hpk⟩ KL hN hE
 refine qM (cf:=cf0) laid mixed _ _ _ (by kernel_rfl) ?_
 by_cases hlt:k<ts.length
 ·have hlt':(k:Int)<ts.length:=by omega
  have hg:=KB zH ts k hlt
  (simp (maxSteps:=2000000) (disch:=first|omega|assumption) [zz,-List.reduceReplicate,hlt',hg])
  refine ZG (R:=fun r' H'=>r'=.av .bool (.b (g ts[k]))∧H'=Hs) Hs [] (by simp) ho (by simp[qQ]) (hff _ (List.getElem_mem hlt)) ?_
  rintro r' H' ⟨rfl,rfl⟩ _
  refine⟨H',by simpa using HSub.refl _,?_⟩
  by_cases hp:g ts[k]=true
  ·(simp (maxSteps:=2000000) (disch:=first|omega|assumption) [zz,-List.reduceReplicate,hp])
   refine hE _ _ (by simp) ?_
   (simp (maxSteps:=2000000) (disch:=first|omega|assumption) [zz,-List.reduceReplicate,Tryz.f71,uL hlt hpk hp,ho])
  ·(simp (maxSteps:=2000000) (disch:=first|omega|assumption) [zz,-List.reduceReplicate,hp])
   refine hN _ (k+1) ?_ ⟨by omega,by rw[Z2 hlt];exact⟨hpk,by simpa using hp⟩⟩ (by omega)
   refine Le.of ?_ ?_ ?_ ?_ ?_<;>simp[qU,qG]
 ·have hlt':¬(k:Int)<ts.length:=by omega
  (simp (maxSteps:=2000000) (disch:=first|omega|assumption) [zz,-List.reduceReplicate,hlt'])
  refine hE _ _ (by simp) ?_
  rw[List.take_of_length_le (by omega)]at hpk
  (simp (maxSteps:=2000000) (disch:=first|omega|assumption) [zz,-List.reduceReplicate,Tryz.f71,x9 hpk,ho])
theorem zwr (x:KnV) (h:x.data.length≤65536):PC Tryz.prog 67 [.av KnT (zH x)] (.av .bool (.b false)):=by
 refine PC.of <| q7.of_vc laid mixed Tryz.func67 rfl cf0 (by kernel_rfl) (by simp[Tryz.ntmps67]) fun imm0 w0=>?_
 (simp (maxSteps:=2000000) (disch:=first|omega|assumption) [zz,-List.reduceReplicate,zH])
 have h':¬(65536:Int)<x.data.length:=by omega
 cases hi:x.is
 ·(simp (maxSteps:=2000000) (disch:=first|omega|assumption) [zz,-List.reduceReplicate,hi,Tryz.f67])
 ·(simp (maxSteps:=2000000) (disch:=first|omega|assumption) [zz,-List.reduceReplicate,hi,h',Tryz.f67])
theorem zwk (ts:List KnV) (hn:ts.length≤1000000000) (hd:∀k∈ts,k.data.length≤65536):PC Tryz.prog 66 [.av (.slice 55) (zL ts),.av .func (.fn 67 [])] (.av .bool (.b false)):=by
 have hf:zvX (.fn 67 []) [] (fun _=>false) ts:=⟨rfl,rfl,fun x hx=>⟨[],rfl,by simp,by have h9:=zwr x (hd x hx);unfold PC at h9;simpa[TV.er,AV.er,(vU x).1]using h9⟩⟩
 have hef:=YO ts
 refine PC.of <| q7.of_vc laid mixed Tryz.func66 rfl cf0 (by kernel_rfl) (by simp[Tryz.ntmps66]) fun imm0 w0=>?_
 (simp (maxSteps:=2000000) (disch:=first|omega|assumption) [zz,-List.reduceReplicate])
 refine qE (R:=fun r' H'=>r'=.av (.int .i64) (.i .i64 (J7 (fun _:KnV=>false) ts))∧H'=[]) [] [] (by simp) rfl (by simp[qQ]) (by simp) ?_ ?_
 ·have:=zw4 _ _ _ ts hf hn
  simpa[TV.er,AV.er,hef]using this
 rintro r' H' ⟨rfl,rfl⟩ _
 refine⟨[],by simpa using HSub.refl _,?_⟩
 have he:J7 (fun _:KnV=>false) ts=-1:=x9 fun _ _=>rfl
 rw[he]
 (simp (maxSteps:=2000000) (disch:=first|omega|assumption) [zz,-List.reduceReplicate,Tryz.f66])
theorem zwn (b:Nat) (p:Txt) (x:KnV):q7 Tryz.prog 72 [.av KnT (zH x),.av .ptr (.ptr b .str [])] [(b,zF p)] fun r H'=>r=.av .bool (.b (decide (x.path=p)))∧H'=[(b,zF p)]:=by
 refine q7.of_vc laid mixed Tryz.func72 rfl cf0 (by kernel_rfl) (by simp[Tryz.ntmps72]) fun imm0 w0=>?_
 (simp (maxSteps:=2000000) (disch:=first|omega|assumption) [zz,-List.reduceReplicate,zF,zH])
 (simp (maxSteps:=2000000) (disch:=first|omega|assumption) [zz,-List.reduceReplicate,Tryz.f72])
noncomputable def zuQ (ks:List KnV):HObj:=.var (.slice 55) (zL ks)
theorem zvV (ks:List KnV):(zuQ ks).er=zuQ ks:=by simp[zuQ,HObj.er_var,AV.erk,zL,AV.ers_eq,Function.comp_def,vU]
set_option maxHeartbeats 4000000 in
theorem zwA (bf:Nat) (ks:List KnV) (hn:ks.length≤1000000000) (p:Txt) :
  q7 Tryz.prog 70 [.av .str (.s p),.av .ptr (.ptr bf (.slice 55) [])] [(bf,zuQ ks)] fun r H'=>r=.tup [(KnT,zH ((zQ ks p).getD ⟨[],false,[]⟩)),(.bool,.b (zQ ks p).isSome)]∧H'=[(bf,zuQ ks)]:=by
 have hef:=YO ks
 have hbe:=zvV ks
 refine q7.sub (R:=fun r H'=>r=.tup [(KnT,zH ((zQ ks p).getD ⟨[],false,[]⟩)),(.bool,.b (zQ ks p).isSome)]∧∃H2,Ab.HSub H2 H'∧H2=[(bf,zuQ ks)]) ?_ fun y H' ⟨h1,H2,h2,h3⟩ _=>⟨H2,h2,h1,h3⟩
 refine q7.of_vc laid mixed Tryz.func70 rfl zxa (by kernel_rfl) (by simp[Tryz.ntmps70]) fun imm0 w0=>?_
 (simp (maxSteps:=2000000) (disch:=first|omega|assumption) [zz,-List.reduceReplicate])
 intro b m1
 have m1':¬bf=b:=fun e=>m1 e.symm
 rw[show zuQ ks=.var (.slice 55) (zL ks) from rfl]at hbe ⊢
 (simp (maxSteps:=2000000) (disch:=first|omega|assumption) [zz,-List.reduceReplicate,m1,m1'])
 have hf:zvX (.fn 72 [.ptr b .str []]) [(b,zF p)] (fun x=>decide (x.path=p)) ks:=⟨rfl,rfl,fun x hx=>⟨_,rfl,by simp,by simpa[TV.er,AV.er,(vU x).1]using zwn b p x⟩⟩
 refine qE (R:=fun r' H'=>r'=.av (.int .i64) (.i .i64 (J7 (fun x:KnV=>decide (x.path=p)) ks))∧H'=[(b,zF p)]) [(b,zF p)] [(bf,zuQ ks)] (by simp[zuQ,zF]) rfl (by simp[qQ]) (by simp) ?_ ?_
 ·have:=zw4 _ _ _ ks hf hn
  simpa[TV.er,AV.er,hef,q8.er_cons,zF,HObj.er_var,AV.erk]using this
 rintro r' H' ⟨rfl,rfl⟩ _
 refine⟨_,HSub.refl _,?_⟩
 rcases ze8 (fun x:KnV=>decide (x.path=p)) ks with⟨he,hf⟩|⟨i,hi,he,hf⟩
 ·have ht:zQ ks p=none:=hf
  rw[he,ht]
  (simp (maxSteps:=2000000) (disch:=first|omega|assumption) [zz,-List.reduceReplicate,zF,zuQ,m1,m1',hbe,zH,Tryz.f70])
  exact HSub.of_sub ((List.Sublist.refl _).cons _)
 ·have ht:zQ ks p=some ks[i]:=hf
  have hg:=pZ ks i hi
  have hi':(i:Int)<ks.length:=by omega
  have hi0:¬(i:Int)<0:=by omega
  have hke:(zH ks[i]).er=zH ks[i]:=(vU _).1
  have hee:AV.ers (ks.map zH)=ks.map zH:=by simp[AV.ers_eq,Function.comp_def,vU]
  rw[he,ht]
  (simp (maxSteps:=2000000) (disch:=first|omega|assumption) [zz,-List.reduceReplicate,zF,zuQ,m1,m1',hi',hi0,zL,hg])
  (simp (maxSteps:=2000000) (disch:=first|omega|assumption) [zz,-List.reduceReplicate,hee,hke,Tryz.f70])
  exact HSub.of_sub ((List.Sublist.refl _).cons _)
noncomputable def zvY (a:xW) (ks:List KnV):AV × zcy × Int:=match j7 a.tool with
 | .error en=>(zv5,zvh,en.1)
 | .ok cs=>(zvg (zuJ (zQ ks) a cs),(yD (zuJ (zQ ks) a cs)).1,0)
noncomputable def zvQ (x:AV × zcy × Int):TV:=.tup [(zwl,x.1),(qD Tryz.prog 41,zI x.2.1),(.int .i64,.i .i64 x.2.2)]
theorem zvT {ks:List KnV} (hd:∀k∈ks,k.data.length≤65536):Ans (zQ ks):=fun p k hk=>⟨(KP hk).2,hd k (KP hk).1⟩
theorem zwE {a:xW} (ha:zky a) {cs:List CmdV} (hcs:j7 a.tool=.ok cs) {ks:List KnV} (hd:∀k∈ks,k.data.length≤65536) :
  goF (zQ ks) 600 (ZR a.env a.outs (jI a) cs)=some (zuJ (zQ ks) a cs)∧((zuJ (zQ ks) a cs).over=true∨zQ ks (zuJ (zQ ks) a cs).asks=none)∧Z4 a.env cs a.outs (jI a) [] (ZR a.env a.outs (jI a) cs):=by
 obtain⟨b',g1,g2,g3⟩:=zw2 hcs (by have:=ha.be;omega:a.env.length≤1000000000) ha.bev (outs:=a.outs) (may:=jI a) (zvT hd)
 have:zuJ (zQ ks) a cs=b':=by unfold zuJ;rw[g1];rfl
 rw[this]
 exact⟨g1,g3,g2⟩
set_option maxHeartbeats 16000000 in
theorem zwD (a:xW) (hab:zky a) (ks:List KnV) (hn:ks.length≤1000000000) (hd:∀k∈ks,k.data.length≤65536) :
  PC Tryz.prog 30 [.av UI (kT a),.av (.slice 55) (zL ks)] (zvQ (zvY a ks)):=by
 have hae:=YB a
 have hef:=YO ks
 have hfb:=zvV ks
 have hlo:=zwk ks hn hd
 cases hcv:j7 a.tool with
 | error en =>
  obtain⟨e,n⟩:=en
  have hv:zvY a ks=(zv5,zvh,e):=by unfold zvY;rw[hcv]
  have hne:¬e=0:=by rcases Z8 hcv with h|h<;>omega
  have hbe:=zvu a hab false hcv
  rw[hv]
  obtain⟨A,hA⟩:∃A,A=kT a:=⟨_,rfl⟩
  rw[←hA]at hbe hae ⊢
  refine PC.of <| q7.of_vc laid mixed Tryz.func30 rfl zwh (by kernel_rfl) (by simp[Tryz.ntmps30]) fun imm0 w0=>?_
  (simp (maxSteps:=2000000) (disch:=first|omega|assumption) [zz,-List.reduceReplicate])
  intro bf
  refine qL hlo rfl rfl (by simp) (by simp[qS,TV.er,AV.er,hef]) ?_
  (simp (maxSteps:=2000000) (disch:=first|omega|assumption) [zz,-List.reduceReplicate])
  refine qL hbe rfl rfl (by simp) (by simp[qS,TV.er,AV.er,hae]) ?_
  (simp (maxSteps:=2000000) (disch:=first|omega|assumption) [zz,-List.reduceReplicate,hne,zvQ,zv5,zvh,zI,zU,qF,Tryz.f30])
 | ok cs =>
  obtain⟨hgo,hov,hbk⟩:=zwE hab hcv hd
  obtain⟨b',hb'⟩:∃b',b'=zuJ (zQ ks) a cs:=⟨_,rfl⟩
  rw[←hb']at hgo hov
  have hv:zvY a ks=(zvg b',(yD b').1,0):=by unfold zvY;rw[hcv,hb']
  have hbe:=zvA a hab hcv
  rw[hv]
  obtain⟨A,hA⟩:∃A,A=kT a:=⟨_,rfl⟩
  rw[←hA]at hbe hae ⊢
  refine PC.of <| q7.of_vc laid mixed Tryz.func30 rfl zwh (by kernel_rfl) (by simp[Tryz.ntmps30]) fun imm0 w0=>?_
  (simp (maxSteps:=2000000) (disch:=first|omega|assumption) [zz,-List.reduceReplicate])
  intro bf
  refine qL hlo rfl rfl (by simp) (by simp[qS,TV.er,AV.er,hef]) ?_
  (simp (maxSteps:=2000000) (disch:=first|omega|assumption) [zz,-List.reduceReplicate])
  refine qE (R:=fun r H'=>∃B,r=.tup [(.ptr,.ptr B KD []),(.int .i64,.i .i64 0)]∧jJ B (ZR a.env a.outs (jI a) cs) H') [] [(bf,zuQ ks)] (by simp[zuQ]) rfl (by simp[qQ]) (by simp) ?_ ?_
  ·simpa[TV.er,AV.er,hae,q8.er_nil]using hbe
  rintro r H ⟨B,rfl,hH⟩ _
  have hHe:=hH.er
  refine⟨H++[(bf,zuQ ks)],HSub.refl _,?_⟩
  (simp (maxSteps:=2000000) (disch:=first|omega|assumption) [zz,-List.reduceReplicate])
  have hans:zwT (.fn 70 [.ptr bf (.slice 55) []]) [(bf,zuQ ks)] (zQ ks):=⟨by simp[q8.er_cons,hfb],rfl,fun p hp=>⟨_,rfl,by simp,by simpa[TV.er,AV.er]using zwA bf ks hn p⟩⟩
  refine qE (R:=fun y H'=>y=zv9 b'∧(∃H2,H'=H2++[(bf,zuQ ks)]∧jJ B b' H2)∧∃kn',Z4 a.env cs a.outs (jI a) kn' b') (H++[(bf,zuQ ks)]) [] (by simp) rfl (by simp[qQ]) (by simp) ?_ ?_
  ·rw[q8.er_app,hHe,q8.er_cons,hfb,q8.er_nil]
   have:=zvM B _ _ _ (zvT hd) hans hH hbk hab.bo hgo
   simpa[TV.er,AV.er]using this
  rintro y H1 ⟨rfl,_,_⟩ _
  refine⟨H1,by simpa using HSub.refl _,?_⟩
  (simp (maxSteps:=2000000) (disch:=first|omega|assumption) [zz,-List.reduceReplicate,zv9,zvQ])
  (repeat with_reducible refine om ?_)
  have hwe:(zvg b').er=zvg b':=by
   unfold zvg
   split<;>simp[zv5,zvN,AV.er,AV.ers]
  (simp (maxSteps:=2000000) (disch:=first|omega|assumption) [zz,-List.reduceReplicate,hwe,zvQ,Tryz.f30])
@[simp] theorem zwO:qZ Tryz.prog 29=true:=by kernel_rfl
@[simp] theorem zxw:z8 Tryz.prog (.func 29)=false:=q9 zwO
@[simp] theorem zx4:qZ Tryz.prog 34=true:=by kernel_rfl
@[simp] theorem zxf:z8 Tryz.prog (.func 34)=false:=q9 zx4
@[simp] theorem zwP:qZ Tryz.prog 10=true:=by kernel_rfl
@[simp] theorem zxt:z8 Tryz.prog (.func 10)=false:=q9 zwP
@[simp] theorem zxc:qZ Tryz.prog 9=true:=by kernel_rfl
@[simp] theorem zxC:z8 Tryz.prog (.func 9)=false:=q9 zxc
@[simp] theorem zxb:qZ Tryz.prog 8=true:=by kernel_rfl
@[simp] theorem zxB:z8 Tryz.prog (.func 8)=false:=q9 zxb
@[simp] theorem zwU:qZ Tryz.prog 31=true:=by kernel_rfl
@[simp] theorem zxi:z8 Tryz.prog (.func 31)=false:=q9 zwU
@[simp] theorem zx5:qZ Tryz.prog 33=true:=by kernel_rfl
@[simp] theorem zxm:z8 Tryz.prog (.func 33)=false:=q9 zx5
@[simp] theorem zwX:qZ Tryz.prog 78=true:=by kernel_rfl
@[simp] theorem zxq:z8 Tryz.prog (.func 78)=false:=q9 zwX
@[simp] theorem zwV:qZ Tryz.prog 36=true:=by kernel_rfl
@[simp] theorem zxu:z8 Tryz.prog (.func 36)=false:=q9 zwV
@[simp] theorem zwL:qZ Tryz.prog 35=true:=by kernel_rfl
@[simp] theorem zxy:z8 Tryz.prog (.func 35)=false:=q9 zwL
def fxTool:Txt:=[114,101,97,100,32,97,10,119,114,105,116,101,32,111,117,116,47,111]
def fxAct:xW:=⟨[],[],fxTool,[],[[97]],[],[QG]⟩
theorem zvr:z7 fxTool=z7 alTool:=by rw[PU];decide
theorem zx9:∃cs,j7 fxTool=.ok cs:=by
 obtain⟨cs,h⟩:=zpF
 have h1:¬(65536<fxTool.length∨400<(z7 fxTool).length):=by rw[zvr,PU];decide
 have h2:¬(65536<alTool.length∨400<(z7 alTool).length):=by rw[PU];decide
 unfold j7 at h ⊢
 rw[if_neg h1,zvr]
 rw[if_neg h2]at h
 exact⟨cs,h⟩
theorem zwZ:jI fxAct [97]=true:=by
 simp[jI,pJ,fxAct,QG]
theorem zwF:zky fxAct:=by
 refine⟨by decide,by decide,by simp[fxAct],by decide,by decide,?_,by decide⟩
 intro x hx
 simp[fxAct]at hx
theorem zxj:zvY fxAct []=(zvN [97],zvh,0):=by
 obtain⟨cs,hcs⟩:=zx9
 have h0:=zbj hcs (env:=[]) (by simp) (by simp) [QG] (jI fxAct)
 obtain⟨b,hb⟩:∃b,b=ZR [] [QG] (jI fxAct) cs:=⟨_,rfl⟩
 rw[←hb]at h0
 obtain⟨_,i,hi⟩:=XU hcs
 have hfl:zh5 [] cs (z7 fxTool):=⟨⟨i,hi⟩⟩
 obtain⟨f1,f2⟩:=zkA
 rw[←zvr]at f1 f2
 obtain⟨wr,hs⟩:=h0.s
 have hw:b.asks=[97]∧b.over=false:=by
  cases (hs.far hfl).1 with
  | waits h1 h2 h3 h4 h5 h6=>rw[f1]at h3;exact⟨h3,h4⟩
  | read h1 h2=>rw[f1]at h2;rw[zwZ]at h2;cases h2
  | ended h1=>rw[f1]at h1;cases h1
  | short h1=>rw[f1]at h1;cases h1
  | failed h1=>rw[f1]at h1;cases h1
  | wrote wr d h1=>rw[f2]at h1;simp at h1
 have ho:zuJ (zQ []) fxAct cs=b:=by
  have hg:goF (zQ []) 600 b=some b:=by
   rw[goF,if_neg (by rw[hw.2];decide)]
   rfl
  unfold zuJ
  rw[show ZR fxAct.env fxAct.outs (jI fxAct) cs=b from hb.symm,hg]
  rfl
 unfold zvY
 rw[show fxAct.tool=fxTool from rfl,hcs]
 simp only[ho]
 rw[KN hw.2]
 simp[zvg,hw,zvh]
set_option maxHeartbeats 16000000 in
theorem zvO:PC Tryz.prog 29 [] (.av .bool (.b true)):=by
 have ht:=zwD fxAct zwF [] (by simp) (by simp)
 rw[zxj]at ht
 have hte:fxTool=[114,101,97,100,32,97,10,119,114,105,116,101,32,111,117,116,47,111]:=rfl
 have hae:kT fxAct=.agg [.agg [.s [],.s []],.s fxTool,.sl .no [],.sl .no [.s [97]],.sl .no [],.sl .no [.s [111,117,116,47,111]]]:=rfl
 have hke:zL []=.sl .no []:=rfl
 rw[hae,hte,hke]at ht
 unfold zvQ at ht
 refine PC.of <| q7.of_vc laid mixed Tryz.func29 rfl cf0 (by kernel_rfl) (by simp[Tryz.ntmps29]) fun imm0 w0=>?_
 (simp (maxSteps:=2000000) (disch:=first|omega|assumption) [zz,-List.reduceReplicate])
 refine qL ht rfl rfl (by simp) (by simp[qS,TV.er,AV.er,AV.ers]) ?_
 (simp (maxSteps:=2000000) (disch:=first|omega|assumption) [zz,-List.reduceReplicate,zvN,zvh,zI,Tryz.f29])
def flW:List U1→Nat
 | []=>0
 | x::l=>x.path.length+x.data.length+1+flW l
theorem zvE:∀a b:List U1,flW (a++b)=flW a+flW b
 | [],b=>by simp[flW]
 | x::a,b=>by simp only[List.cons_append,flW,zvE a b];omega
theorem zwt (l:List U1) (k:Nat):flW (l.take k)≤flW l:=by
 conv=>rhs;rw[←List.take_append_drop k l,zvE]
 omega
theorem zvI:∀l:List U1,l.length≤flW l
 | []=>by simp[flW]
 | x::l=>by have:=zvI l;simp only[List.length_cons,flW];omega
theorem zw5 {l:List U1} {x:U1} (h:x∈l):x.path.length+x.data.length+1≤flW l:=by
 induction l with
 | nil=>cases h
 | cons y r ih =>
  simp only[flW]
  rcases List.mem_cons.1 h with rfl|h
  ·omega
  ·have:=ih h;omega
theorem zwo (l:List U1) (k:Nat) (h:k<l.length):flW (l.take (k+1))=flW (l.take k)+(l[k].path.length+l[k].data.length+1):=by
 rw[List.take_succ_eq_append_getElem h,zvE];simp only[flW];try omega
theorem zvj (l:List U1) (hl:flW l≤1000000000):PC Tryz.prog 31 [.av (.slice 66) (zU l)] (.av .bool (.b (decide (3000<flW l)))):=by
 have hlen:=zvI l
 refine PC.of <| q7.of_vc laid mixed Tryz.func31 rfl cf0 (by kernel_rfl) (by simp[Tryz.ntmps31]) fun imm0 w0=>?_
 (simp (maxSteps:=2000000) (disch:=first|omega|assumption) [zz,-List.reduceReplicate,zU])
 refine AT.loop' (α:=Nat) (fun k=>St.of [(0,.av (.slice 66) (zU l)),(6,.av (.int .i64) (.i .i64 l.length)),(7,.av (.int .i64) (.i .i64 k)),(3,.av (.int .i64) (.i .i64 (flW (l.take k))))] [] (fun _=>0) [])
  (fun k=>k≤l.length) (fun k=>l.length-k) 0 ?_ ?_ ?_
 ·refine Le.of ?_ ?_ ?_ ?_ ?_<;>simp[qU,qG,zU,flW]<;>try omega
 ·omega
 rintro k hk KL hN hE
 refine qM (cf:=cf0) laid mixed _ _ _ (by kernel_rfl) ?_
 by_cases hlt:k<l.length
 ·have hlt':(k:Int)<l.length:=by omega
  have hg:=KB jZ l k hlt
  have hs:=zwo l k hlt
  have ht:=zwt l (k+1)
  obtain⟨m,hm⟩:∃m,m=flW (l.take k):=⟨_,rfl⟩
  rw[←hm]at hs ⊢
  have hs':(flW (l.take (k+1)):Int)=m+l[k].path.length+l[k].data.length+1:=by omega
  (simp (maxSteps:=2000000) (disch:=first|omega|assumption) [zz,-List.reduceReplicate,hlt',hg,jZ,zU])
  (repeat with_reducible refine om ?_)
  refine hN _ (k+1) ?_ (by omega) (by omega)
  refine Le.of ?_ ?_ ?_ ?_ ?_<;>simp[qU,qG,zU,hs']<;>try omega
 ·have hkn:k=l.length:=by omega
  subst hkn
  have hlt':¬(l.length:Int)<l.length:=by omega
  (simp (maxSteps:=2000000) (disch:=first|omega|assumption) [zz,-List.reduceReplicate,hlt',zU])
  refine hE _ _ (by simp) ?_
  by_cases h5:3000<flW l
  ·have h5':(3000:Int)<flW l:=by omega
   (simp (maxSteps:=2000000) (disch:=first|omega|assumption) [zz,-List.reduceReplicate,h5,h5',Tryz.f31])
  ·have h5':¬(3000:Int)<flW l:=by omega
   (simp (maxSteps:=2000000) (disch:=first|omega|assumption) [zz,-List.reduceReplicate,h5,h5',Tryz.f31])
theorem zws {l:List U1} (h:flW l≤3000):zuK l=false∧l.length≤3000:=by
 have h1:=zvI l
 refine⟨?_,by omega⟩
 unfold zuK
 rw[List.any_eq_false]
 intro x hx
 have:=zw5 hx
 simp
 omega
theorem zw7 {a b:KnV}:zH a=zH b↔a=b:=by
 cases a;cases b;simp[zH]
theorem zwq {fs:List U1} {p:Txt} {k:Nat} (hk:k<fs.length) (hno:∀i (h:i<fs.length),i<k→fs[i].path≠p) (h:fs[k].path=p):z1 fs p=⟨p,true,fs[k].data⟩:=by
 have:fs.find? (fun f=>decide (f.path=p))=some fs[k]:=by
  rw[List.find?_eq_some_iff_getElem]
  refine⟨by simpa using h,k,hk,rfl,fun i hi=>?_⟩
  simpa using hno i (by omega) hi
 unfold z1;rw[this]
theorem zwe {fs:List U1} {p:Txt} (hno:∀i (h:i<fs.length),fs[i].path≠p):z1 fs p=⟨p,false,[]⟩:=by
 have:fs.find? (fun f=>decide (f.path=p))=none:=by
  rw[List.find?_eq_none]
  intro x hx
  obtain⟨i,hi,rfl⟩:=List.getElem_of_mem hx
  simpa using hno i hi
 unfold z1;rw[this]
theorem zwG (fs:List U1) (hn:fs.length≤1000000000) (p:Txt):PC Tryz.prog 78 [.av (.slice 66) (zU fs),.av .str (.s p)] (.tup [(.str,.s (z1 fs p).data),(.bool,.b (z1 fs p).is)]):=by
 refine PC.of <| q7.of_vc laid mixed Tryz.func78 rfl cf0 (by kernel_rfl) (by simp[Tryz.ntmps78]) fun imm0 w0=>?_
 (simp (maxSteps:=2000000) (disch:=first|omega|assumption) [zz,-List.reduceReplicate,zU])
 refine AT.loop' (α:=Nat) (fun k=>St.of [(0,.av (.slice 66) (zU fs)),(1,.av .str (.s p)),(8,.av (.int .i64) (.i .i64 fs.length)),(9,.av (.int .i64) (.i .i64 k))] [] (fun _=>0) [])
  (fun k=>k≤fs.length∧∀i (h:i<fs.length),i<k→fs[i].path≠p) (fun k=>fs.length-k) 0 ?_ ?_ ?_
 ·refine Le.of ?_ ?_ ?_ ?_ ?_<;>simp[qU,qG,zU]<;>try omega
 ·exact⟨by omega,fun i h hi=>by omega⟩
 rintro k ⟨hk,hno⟩ KL hN hE
 refine qM (cf:=cf0) laid mixed _ _ _ (by kernel_rfl) ?_
 by_cases hlt:k<fs.length
 ·have hlt':(k:Int)<fs.length:=by omega
  have hg:=KB jZ fs k hlt
  by_cases hc:fs[k].path=p
  ·have ht:=zwq hlt hno hc
   (simp (maxSteps:=2000000) (disch:=first|omega|assumption) [zz,-List.reduceReplicate,hlt',hg,jZ,zU,hc])
   refine hE _ _ (by simp) ?_
   (simp (maxSteps:=2000000) (disch:=first|omega|assumption) [zz,-List.reduceReplicate,ht,Tryz.f78])
  ·(simp (maxSteps:=2000000) (disch:=first|omega|assumption) [zz,-List.reduceReplicate,hlt',hg,jZ,zU,hc])
   refine hN _ (k+1) ?_ ⟨by omega,fun i h hi=>?_⟩ (by omega)
   ·refine Le.of ?_ ?_ ?_ ?_ ?_<;>simp[qU,qG,zU]<;>try omega
   ·rcases Nat.lt_or_ge i k with h1|h1
    ·exact hno i h h1
    ·have:i=k:=by omega
     subst this;exact hc
 ·have hlt':¬(k:Int)<fs.length:=by omega
  have ht:=zwe (fs:=fs) (p:=p) fun i h=>hno i h (by omega)
  (simp (maxSteps:=2000000) (disch:=first|omega|assumption) [zz,-List.reduceReplicate,hlt',zU])
  refine hE _ _ (by simp) ?_
  (simp (maxSteps:=2000000) (disch:=first|omega|assumption) [zz,-List.reduceReplicate,ht,Tryz.f78])
theorem zvP (fs:List U1) (hn:fs.length≤1000000000) (p:Txt):PC Tryz.prog 33 [.av (.slice 66) (zU fs),.av .str (.s p)] (.av KnT (zH (z1 fs p))):=by
 have hef:=zdW fs
 have hp:=zvy fs p
 refine PC.of <| q7.of_vc laid mixed Tryz.func33 rfl cf0 (by kernel_rfl) (by simp[Tryz.ntmps33]) fun imm0 w0=>?_
 (simp (maxSteps:=2000000) (disch:=first|omega|assumption) [zz,-List.reduceReplicate])
 refine qL (zwG fs hn p) rfl rfl (by simp) (by simp[qS,TV.er,AV.er,hef]) ?_
 (simp (maxSteps:=2000000) (disch:=first|omega|assumption) [zz,-List.reduceReplicate,zH,hp,Tryz.f33])
set_option maxHeartbeats 32000000 in
theorem zvt (a:xW) (xs ys:List U1) (ha:vA a≤1000000000) (hx:flW xs≤1000000000) (hy:flW ys≤1000000000) :
  PC Tryz.prog 9 [.av UI (kT a),.av (.slice 66) (zU xs),.av (.slice 66) (zU ys)] (.av .bool (.b true)):=by
 have hex:=zdW xs
 have hey:=zdW ys
 have hae:=YB a
 have hgr:=d8 a ha
 have hgx:=zvj xs hx
 have hgy:=zvj ys hy
 have hfx:=zvO
 have hall:=fun hab=>zvG a hab
 obtain⟨A,hA⟩:∃A,A=kT a:=⟨_,rfl⟩
 rw[←hA]at hgr hae hall ⊢
 refine PC.of <| q7.of_vc laid mixed Tryz.func9 rfl cf0 (by kernel_rfl) (by simp[Tryz.ntmps9]) fun imm0 w0=>?_
 (simp (maxSteps:=2000000) (disch:=first|omega|assumption) [zz,-List.reduceReplicate])
 refine qL hgr rfl rfl (by simp) (by simp[qS,TV.er,hae]) ?_
 by_cases hg:2000<vA a
 ·(simp (maxSteps:=2000000) (disch:=first|omega|assumption) [zz,-List.reduceReplicate,hg])
  refine qL hfx rfl rfl (by simp) (by simp[qS,TV.er,AV.er]) ?_
  (simp (maxSteps:=2000000) (disch:=first|omega|assumption) [zz,-List.reduceReplicate,Tryz.f9])
 (simp (maxSteps:=2000000) (disch:=first|omega|assumption) [zz,-List.reduceReplicate,hg])
 refine qL hgx rfl rfl (by simp) (by simp[qS,TV.er,hex]) ?_
 by_cases h1:3000<flW xs
 ·(simp (maxSteps:=2000000) (disch:=first|omega|assumption) [zz,-List.reduceReplicate,h1])
  refine qL hfx rfl rfl (by simp) (by simp[qS,TV.er,AV.er]) ?_
  (simp (maxSteps:=2000000) (disch:=first|omega|assumption) [zz,-List.reduceReplicate,Tryz.f9])
 (simp (maxSteps:=2000000) (disch:=first|omega|assumption) [zz,-List.reduceReplicate,h1])
 refine qL hgy rfl rfl (by simp) (by simp[qS,TV.er,hey]) ?_
 by_cases h2:3000<flW ys
 ·(simp (maxSteps:=2000000) (disch:=first|omega|assumption) [zz,-List.reduceReplicate,h2])
  refine qL hfx rfl rfl (by simp) (by simp[qS,TV.er,AV.er]) ?_
  (simp (maxSteps:=2000000) (disch:=first|omega|assumption) [zz,-List.reduceReplicate,Tryz.f9])
 (simp (maxSteps:=2000000) (disch:=first|omega|assumption) [zz,-List.reduceReplicate,h2])
 have hab:=zbN (a:=a) (by omega)
 obtain⟨hlx,hnx⟩:=zws (l:=xs) (by omega)
 obtain⟨hly,hny⟩:=zws (l:=ys) (by omega)
 have hax:=hall hab xs (by omega)
 have hay:=hall hab ys (by omega)
 obtain⟨bo,br⟩:=zvH hab xs
 have hfr:=zwb (xs:=xs) (ys:=ys) hab
 have hot:=zvz (fs:=xs) (gs:=ys) hab
 obtain⟨X,hX⟩:∃X,X=zuI a xs:=⟨_,rfl⟩
 obtain⟨Y,hY⟩:∃Y,Y=zuI a ys:=⟨_,rfl⟩
 rw[←hX]at hax bo br
 rw[←hY]at hay
 simp only[←hX,←hY]at hfr hot
 obtain⟨o,e⟩:=X
 obtain⟨q,f⟩:=Y
 simp only at hax hay bo br hfr hot
 refine qL hax rfl rfl (by simp) (by simp[qS,TV.er,AV.er,hae,hex]) ?_
 (simp (maxSteps:=2000000) (disch:=first|omega|assumption) [zz,-List.reduceReplicate])
 refine qL hay rfl rfl (by simp) (by simp[qS,TV.er,AV.er,hae,hey]) ?_
 by_cases he:e=0
 rotate_left
 ·(simp (maxSteps:=2000000) (disch:=first|omega|assumption) [zz,-List.reduceReplicate,he])
  refine qL hfx rfl rfl (by simp) (by simp[qS,TV.er,AV.er]) ?_
  (simp (maxSteps:=2000000) (disch:=first|omega|assumption) [zz,-List.reduceReplicate,Tryz.f9])
 by_cases hf:f=0
 rotate_left
 ·(simp (maxSteps:=2000000) (disch:=first|omega|assumption) [zz,-List.reduceReplicate,he,hf])
  refine qL hfx rfl rfl (by simp) (by simp[qS,TV.er,AV.er]) ?_
  (simp (maxSteps:=2000000) (disch:=first|omega|assumption) [zz,-List.reduceReplicate,Tryz.f9])
 subst he hf
 (simp (maxSteps:=2000000) (disch:=first|omega|assumption) [zz,-List.reduceReplicate])
 refine AT.loop' (α:=Nat) (fun k=>St.of [(1,.av (.slice 66) (zU xs)),(2,.av (.slice 66) (zU ys)),(7,.loc 7 []),(9,.loc 9 []),(11,.av (.int .i64) (.i .i64 k))] [(7,(qD Tryz.prog 41,zI o)),(9,(qD Tryz.prog 41,zI q))] (fun _=>0) [])
  (fun k=>k≤o.reads.length∧∀j (h:j<o.reads.length),j<k→z1 xs o.reads[j].path=z1 ys o.reads[j].path) (fun k=>o.reads.length-k) 0 ?_ ?_ ?_
 ·refine Le.of ?_ ?_ ?_ ?_ ?_<;>simp[qU,qG,zU]<;>try omega
 ·exact⟨by omega,fun j h hj=>by omega⟩
 rintro k ⟨hk,hsame⟩ KL hN hE
 refine qM (cf:=cf0) laid mixed _ _ _ (by kernel_rfl) ?_
 by_cases hlt:k<o.reads.length
 ·have hlt':(k:Int)<o.reads.length:=by omega
  obtain⟨hk2,hpa⟩:=hfr rfl rfl k hlt fun j hj=>hsame j (by omega) hj
  have hk2':¬(q.reads.length:Int)≤k:=by omega
  have hk2'':(k:Int)<q.reads.length:=by omega
  have hga:=KB qI o.reads k hlt
  have hgb:=KB qI q.reads k hk2
  obtain⟨⟨p1,i1,s1⟩,hr1⟩:∃r,r=o.reads[k]:=⟨_,rfl⟩
  obtain⟨⟨p2,i2,s2⟩,hr2⟩:∃r,r=q.reads[k]:=⟨_,rfl⟩
  rw[←hr1]at hga hpa
  rw[←hr2]at hgb hpa
  simp only at hpa
  subst hpa
  have htx:=zvP xs (by omega) p2
  have hty:=zvP ys (by omega) p2
  by_cases hi:i1=i2
  rotate_left
  ·(simp (maxSteps:=2000000) (disch:=first|omega|assumption) [zz,-List.reduceReplicate,hlt',hk2',hk2'',hga,hgb,zI,qF,qI,hi])
   (repeat with_reducible refine om ?_)
   refine qL hfx rfl rfl (by simp) (by simp[qS,TV.er,AV.er]) ?_
   (simp (maxSteps:=2000000) (disch:=first|omega|assumption) [zz,-List.reduceReplicate])
   refine hE _ _ (by simp) ?_
   (simp (maxSteps:=2000000) (disch:=first|omega|assumption) [zz,-List.reduceReplicate,Tryz.f9])
  subst hi
  by_cases hs:KW s1=KW s2
  rotate_left
  ·(simp (maxSteps:=2000000) (disch:=first|omega|assumption) [zz,-List.reduceReplicate,hlt',hk2',hk2'',hga,hgb,zI,qF,qI,hs])
   (repeat with_reducible refine om ?_)
   refine qL hfx rfl rfl (by simp) (by simp[qS,TV.er,AV.er]) ?_
   (simp (maxSteps:=2000000) (disch:=first|omega|assumption) [zz,-List.reduceReplicate])
   refine hE _ _ (by simp) ?_
   (simp (maxSteps:=2000000) (disch:=first|omega|assumption) [zz,-List.reduceReplicate,Tryz.f9])
  by_cases ht:z1 xs p2=z1 ys p2
  ·have hkt:zH (z1 xs p2)=zH (z1 ys p2):=by rw[ht]
   (simp (maxSteps:=2000000) (disch:=first|omega|assumption) [zz,-List.reduceReplicate,hlt',hk2',hk2'',hga,hgb,zI,qF,qI,hs])
   (repeat with_reducible refine om ?_)
   refine jC htx rfl rfl (by simp) (by simp[qS,coC,TV.er,AV.er,hex]) ?_
   (simp (maxSteps:=2000000) (disch:=first|omega|assumption) [zz,-List.reduceReplicate,hlt',hk2'',hga,hgb,zI,qF,qI])
   (repeat with_reducible refine om ?_)
   refine jC hty rfl rfl (by simp) (by simp[qS,coC,TV.er,AV.er,hey]) ?_
   (simp (maxSteps:=2000000) (disch:=first|omega|assumption) [zz,-List.reduceReplicate,hkt])
   (repeat with_reducible refine om ?_)
   refine hN _ (k+1) ?_ ⟨by omega,fun j hj h=>?_⟩ (by omega)
   ·refine Le.of ?_ ?_ ?_ ?_ ?_<;>simp[qU,qG,zI,qF]<;>try omega
   ·rcases Nat.lt_or_ge j k with h'|h'
    ·exact hsame j hj h'
    ·have:j=k:=by omega
     subst this
     rw[←hr1];exact ht
  ·have hkt:¬zH (z1 xs p2)=zH (z1 ys p2):=fun e=>ht (zw7.1 e)
   (simp (maxSteps:=2000000) (disch:=first|omega|assumption) [zz,-List.reduceReplicate,hlt',hk2',hk2'',hga,hgb,zI,qF,qI,hs])
   (repeat with_reducible refine om ?_)
   refine jC htx rfl rfl (by simp) (by simp[qS,coC,TV.er,AV.er,hex]) ?_
   (simp (maxSteps:=2000000) (disch:=first|omega|assumption) [zz,-List.reduceReplicate,hlt',hk2'',hga,hgb,zI,qF,qI])
   (repeat with_reducible refine om ?_)
   refine jC hty rfl rfl (by simp) (by simp[qS,coC,TV.er,AV.er,hey]) ?_
   (simp (maxSteps:=2000000) (disch:=first|omega|assumption) [zz,-List.reduceReplicate,hkt])
   (repeat with_reducible refine om ?_)
   refine qL hfx rfl rfl (by simp) (by simp[qS,TV.er,AV.er]) ?_
   (simp (maxSteps:=2000000) (disch:=first|omega|assumption) [zz,-List.reduceReplicate])
   refine hE _ _ (by simp) ?_
   (simp (maxSteps:=2000000) (disch:=first|omega|assumption) [zz,-List.reduceReplicate,Tryz.f9])
 ·have hkn:k=o.reads.length:=by omega
  subst hkn
  have hlt':¬(o.reads.length:Int)<o.reads.length:=by omega
  have hoq:q=o:=by
   have:=hot rfl hly fun r hr=>by
    obtain⟨j,hj,rfl⟩:=List.getElem_of_mem hr
    exact(hsame j hj hj).symm
   simpa using this
  subst hoq
  have hss:WJ q q=true:=u5.2 rfl
  have hso:=VG q q bo br bo br
  rw[hss]at hso
  have hoe:=KO q
  (simp (maxSteps:=2000000) (disch:=first|omega|assumption) [zz,-List.reduceReplicate,hlt',zI,qF])
  refine hE _ _ (by simp) ?_
  have hee:AV.ers (q.reads.map qI)=q.reads.map qI:=by simp[AV.ers_eq,Function.comp_def]
  (simp (maxSteps:=2000000) (disch:=first|omega|assumption) [zz,-List.reduceReplicate])
  refine qL hso rfl rfl (by simp) (by simp[qS,TV.er,AV.er,AV.ers,zI,qF,hee]) ?_
  (simp (maxSteps:=2000000) (disch:=first|omega|assumption) [zz,-List.reduceReplicate])
  refine qL hfx rfl rfl (by simp) (by simp[qS,TV.er,AV.er]) ?_
  (simp (maxSteps:=2000000) (disch:=first|omega|assumption) [zz,-List.reduceReplicate,Tryz.f9])
end Go.Proofs.YthgocigdldgpgaaGreatDoor
end
section
set_option maxRecDepth 100000
namespace Go.Proofs.YthgocigdldgpgaaGreatDoor
open Go Go.Ab
open Classical
variable [Sel]
theorem DU {α:Type} {f:α→AV} {q:AV→Prop} {r:α→Prop} {xs:List AV} (h:∀y∈xs,q y) (hd:∀y,q y→∃a,y=f a∧r a):∃l:List α,xs=l.map f∧∀a∈l,r a:=by
 induction xs with
 | nil=>exact⟨[],rfl,by simp⟩
 | cons y ys ih =>
  obtain⟨a,ha,hr⟩:=hd y (h y (by simp))
  obtain⟨l,hl,hl2⟩:=ih fun z hz=>h z (by simp[hz])
  exact⟨a::l,by simp[ha,hl],by simpa using⟨hr,hl2⟩⟩
end Go.Proofs.YthgocigdldgpgaaGreatDoor
end
