/- The chapter's example: two actions that wait for one another. No condition. -/
import Derived.Test.YtdkieabmeiojjaaGreatDoorSB7ToSD2
import Derived.Test.YtdkieabmeiojjaaGreatDoorSI0ToSR0
set_option linter.unusedSimpArgs false
set_option linter.unusedVariables false
set_option linter.unusedSectionVars false
set_option maxHeartbeats 64000000
set_option maxRecDepth 100000
namespace Go.Proofs.YtdkieabmeiojjaaGreatDoor
open Go Go.Ab
open Classical
section
variable [Sel] [SelPow] [SelMax]
def fxA:Txt:=[111,117,116,47,97]
def fxB:Txt:=[111,117,116,47,98]
def zhM:List Txt:=[[114,101,97,100,32,111,117,116,47,98],[119,114,105,116,101,32,111,117,116,47,97]]
def zit:List Txt:=[[114,101,97,100,32,111,117,116,47,97],[119,114,105,116,101,32,111,117,116,47,98]]
def DX:Txt:=[114,101,97,100,32,111,117,116,47,98,10,119,114,105,116,101,32,111,117,116,47,97,10]
def CB:Txt:=[114,101,97,100,32,111,117,116,47,97,10,119,114,105,116,101,32,111,117,116,47,98,10]
def fxW:zV:=⟨[],[⟨[],[],DX,[],[fxB],[],[fxA]⟩,⟨[],[],CB,[],[fxA],[],[fxB]⟩],[fxA],false⟩
theorem zcq {t l1 l2 P Q:Txt} (hl:qU t=[l1,l2]) (ht:¬65536<t.length) (h1:zG l1=[zU,P]) (h2:zG l2=[jN,Q]) (g1:VJ [zU,P]=true) (g2:VJ [jN,Q]=true):∃cs,zL t=.ok cs:=by
 have hc:DG t=(0,0):=by
  unfold DG
  rw[hl,if_neg (by simpa using ht)]
  simp[zcX,h1,h2,g1,g2]
 rcases zeC t with⟨cs,h,_⟩|⟨e,n,_,h,h0⟩
 ·exact⟨cs,h⟩
 ·rw[hc]at h
  exact absurd (congrArg Prod.fst h).symm h0
theorem zm1 {t l1 l2 P Q:Txt} (hl:qU t=[l1,l2]) (h1:zG l1=[zU,P]) (hp:G7 [zU,P]=false):(XZ [] [] (qU t) st0).stop=⟨1,P,[],0⟩/\(XZ [] [] (qU t) st0).wrote=[]:=by
 have hs:pN [] [] l1 [zU,P] st0={ (st0:StV)with asked:=[P],stop:=⟨1,P,[],0⟩ }:=by
  simp[pN,yM,st0,do0,j3]
 rw[hl]
 simp only[XZ,h1,hp,hs]
 simp[st0]
theorem zdi {t l1 l2 P:Txt} {outs:List Txt} {may:Txt->Bool} {cs:List CmdV} (hcs:zL t=.ok cs) (hl:qU t=[l1,l2]) (h1:zG l1=[zU,P]) (hp:G7 [zU,P]=false) (hm:may P=true):(X3 [] outs may cs).over=false/\(X3 [] outs may cs).asks=P:=by
 have h0:=dV hcs (env:=[]) (by simp) (by simp) outs may
 obtain⟨b,hb⟩:∃b,b=X3 [] outs may cs:=⟨_,rfl⟩
 rw[<-hb]at h0 |-
 obtain⟨_,i,hi⟩:=uJ hcs
 have hfl:zil [] cs (qU t):=⟨⟨i,hi⟩⟩
 obtain⟨f1,f2⟩:=zm1 (Q:=[]) hl h1 hp
 obtain⟨wr,hs⟩:=h0.s
 cases (hs.far hfl).1 with
 | waits h1 h2 h3 h4 h5 h6=>rw[f1]at h3;exact⟨h4,h3⟩
 | read h1 h2=>rw[f1]at h2;simp only at h2;rw[hm]at h2;cases h2
 | ended h1=>rw[f1]at h1;cases h1
 | short h1=>rw[f1]at h1;cases h1
 | failed h1=>rw[f1]at h1;cases h1
 | wrote wr d h1=>rw[f2]at h1;simp at h1
theorem zgT:(GO ⟨[],[],DX,[],[fxB],[],[fxA]⟩).over=false/\(GO ⟨[],[],DX,[],[fxB],[],[fxA]⟩).asks=fxB:=by
 obtain⟨cs,hcs⟩:=zcq (t:=DX) (l1:=zhM[0]) (l2:=zhM[1]) (P:=fxB) (Q:=fxA) (by decide) (by decide) (by decide) (by decide) (by decide) (by decide)
 have hc:gG ⟨[],[],DX,[],[fxB],[],[fxA]⟩=cs:=by unfold gG;rw[hcs]
 unfold GO
 rw[hc]
 exact zdi hcs (by decide:qU DX=[zhM[0],zhM[1]]) (by decide) (by decide) (by simp[QS,zap,fxA,fxB])
theorem zh2:(GO ⟨[],[],CB,[],[fxA],[],[fxB]⟩).over=false/\(GO ⟨[],[],CB,[],[fxA],[],[fxB]⟩).asks=fxA:=by
 obtain⟨cs,hcs⟩:=zcq (t:=CB) (l1:=zit[0]) (l2:=zit[1]) (P:=fxA) (Q:=fxB) (by decide) (by decide) (by decide) (by decide) (by decide) (by decide)
 have hc:gG ⟨[],[],CB,[],[fxA],[],[fxB]⟩=cs:=by unfold gG;rw[hcs]
 unfold GO
 rw[hc]
 exact zdi hcs (by decide:qU CB=[zit[0],zit[1]]) (by decide) (by decide) (by simp[QS,zap,fxA,fxB])
theorem zcQ:KC (qW fxW) 0 1:=by
 refine⟨fxB,⟨(qW fxW).b0 0,.refl _,?_,?_⟩,?_⟩
 ·exact zgT.1
 ·exact zgT.2
 ·show wJ fxW.acts fxB=some 1
  decide
theorem zhk:KC (qW fxW) 1 0:=by
 refine⟨fxA,⟨(qW fxW).b0 1,.refl _,?_,?_⟩,?_⟩
 ·exact zh2.1
 ·exact zh2.2
 ·show wJ fxW.acts fxA=some 0
  decide
theorem zaS:jL (qW fxW) 0=none:=U6 (.tail (.single zcQ) zhk)
theorem zaQ:jL (qW fxW) 1=none:=U6 (.tail (.single zhk) zcQ)
theorem zoH:(kS (qW fxW) 0).kind=3:=by unfold kS;rw[zaS];rfl
theorem zjJ:(kS (qW fxW) 1).kind=3:=by unfold kS;rw[zaQ];rfl
theorem exw_c:WkC fxW:=by
 refine⟨by simp[fxW],by simp[fxW],?_,by simp[fxW],by decide,by simp[fxW]⟩
 intro a ha
 simp only[fxW,List.mem_cons,List.not_mem_nil,or_false]at ha
 rcases ha with rfl|rfl
 ·exact⟨⟨by decide,by decide,by simp,by decide,by decide,by simp,by decide⟩,by decide,by decide⟩
 ·exact⟨⟨by decide,by decide,by simp,by decide,by decide,by simp,by decide⟩,by decide,by decide⟩
theorem zo1:Y3 DX=(0,0):=by
 obtain⟨cs,hcs⟩:=zcq (t:=DX) (l1:=zhM[0]) (l2:=zhM[1]) (P:=fxB) (Q:=fxA) (by decide) (by decide) (by decide) (by decide) (by decide) (by decide)
 unfold Y3;rw[hcs]
theorem zoF:Y3 CB=(0,0):=by
 obtain⟨cs,hcs⟩:=zcq (t:=CB) (l1:=zit[0]) (l2:=zit[1]) (P:=fxA) (Q:=fxB) (by decide) (by decide) (by decide) (by decide) (by decide) (by decide)
 unfold Y3;rw[hcs]
theorem zpj:w5 fxA=true/\w5 fxB=true/\Z8 fxA YR=true/\Z8 fxB YR=true:=by
 decide
theorem zc4:X0 fxW=0:=by
 obtain⟨p1,p2,p3,p4⟩:=zpj
 have h1:XW fxW.files=0:=zbV (by simp[fxW]) (fun j hj=>by simp[fxW]at hj)
 have h2:(gO fxW.acts).1=0:=by
  have hne:¬fxB=fxA:=by decide
  unfold gO
  rw[if_neg (by simp[fxW])]
  simp[fxW,goC,pF,zo1,zoF,p1,p2,p3,p4,dN,hne]
 unfold X0
 rw[if_neg (by simp[h1]),if_neg (by simp[h2]),if_neg (by simp[fxW]),if_pos (by simp[fxW,p1])]
theorem zlw:zd8 fxW:=exw_c.ok zc4
theorem znZ:kJ (qW fxW) (jL (qW fxW)) fxB=none:=by
 unfold kJ
 rw[show (qW fxW).who fxB=some 1 from by show wJ fxW.acts fxB=some 1;decide]
 simp only[zaQ]
theorem zot:kJ (qW fxW) (jL (qW fxW)) fxA=none:=by
 unfold kJ
 rw[show (qW fxW).who fxA=some 0 from by show wJ fxW.acts fxA=some 0;decide]
 simp only[zaS]
theorem zo3:xF (qW fxW) 0=(qW fxW).b0 0 :=
 (G2 (zcU zlw (by decide:0<fxW.acts.length)).1 (.refl _) (.inr (by rw[show ((qW fxW).b0 0).asks=fxB from zgT.2];exact znZ))).2
theorem zoO:xF (qW fxW) 1=(qW fxW).b0 1 :=
 (G2 (zcU zlw (by decide:1<fxW.acts.length)).1 (.refl _) (.inr (by rw[show ((qW fxW).b0 1).asks=fxA from zh2.2];exact zot))).2
theorem zoj:(xF (qW fxW) 0).asks=fxB:=by rw[zo3];exact zgT.2
theorem zoK:(xF (qW fxW) 1).asks=fxA:=by rw[zoO];exact zh2.2
theorem zjp:uA (qW fxW) 0=1/\uA (qW fxW) 1=0:=by
 unfold uA
 rw[zoj,zoK]
 exact⟨by show (wJ fxW.acts fxB).getD 0=1;decide,by show (wJ fxW.acts fxA).getD 0=0;decide⟩
theorem zlL:zaR fxW 1=[0,1]:=by
 unfold zaR
 rw[if_pos ⟨zc4,by decide,by decide⟩,show (1:Int).toNat=1 from rfl,if_pos zjJ]
 have e:orb (uA (qW fxW)) 0 2=[0,1]:=by
  show [itF (uA (qW fxW)) 0 0,itF (uA (qW fxW)) 1 0]=[0,1]
  simp[itF,zjp.1]
 have hr:XD (uA (qW fxW)) [0,1]:=⟨0,2,by decide,e.symm,by simp[itF,zjp.1,zjp.2],by decide,by decide⟩
 exact zdb (t:=0) hr (by simp[itF])
theorem ziW:yP fxW 0/\yP fxW 1:=by
 have h0:wJ fxW.acts fxA=some 0:=by decide
 exact⟨⟨fxA,by decide,0,h0,.inl rfl⟩,⟨fxA,by decide,0,h0,.inr (.single zcQ)⟩⟩
theorem zlj:zdh fxW=[kS (qW fxW) 0,kS (qW fxW) 1]:=by
 have e:fxW.acts.length=2:=rfl
 unfold zdh
 rw[e,show List.range 2=[0,1] from rfl]
 simp only[List.map_cons,List.map_nil]
 rw[if_pos ziW.1,if_pos ziW.2]
theorem zg4:PC Tryz.prog 5 [] (.av .bool (.b true)):=by
 have hb:=zlS fxW exw_c
 have hr:=zmw fxW exw_c 1
 rw[zlL]at hr
 have e1:zi9 fxW=(WH fxW,0):=by unfold zi9;rw[if_neg (by simp[zc4])]
 rw[e1]at hb
 have e2:kB (WH fxW)=.agg [.sl .no [z7 (kS (qW fxW) 0),z7 (kS (qW fxW) 1)],.sl .no ((WH fxW).ran.map (.i .i64 ·)),.sl .no [],qL (WH fxW).files]:=by
  unfold kB WH
  simp only[zlj]
  rfl
 rw[e2]at hb
 have k0:=zoH
 have k1:=zjJ
 have hW:yV fxW=.agg [.sl .no [],.sl .no [.agg [.agg [.s [],.s []],.s DX,.sl .no [],.sl .no [.s fxB],.sl .no [],.sl .no [.s fxA]],.agg [.agg [.s [],.s []],.s CB,.sl .no [],.sl .no [.s fxA],.sl .no [],.sl .no [.s fxB]]],.sl .no [.s fxA],.b false]:=rfl
 rw[hW]at hb hr
 obtain⟨F,hF⟩:∃F,F=kS (qW fxW) 0:=⟨_,rfl⟩
 obtain⟨G,hG⟩:∃G,G=kS (qW fxW) 1:=⟨_,rfl⟩
 rw[<-hF]at k0
 rw[<-hG]at k1
 rw[<-hF,<-hG]at hb
 obtain⟨X,hX⟩:∃X,X=qL (WH fxW).files:=⟨_,rfl⟩
 obtain⟨Z,hZ⟩:∃Z,Z=AV.sl .no ((WH fxW).ran.map (.i .i64 ·)):=⟨_,rfl⟩
 rw[<-hX,<-hZ]at hb
 refine zow Tryz.func5 cf0 fun imm0 w0=>?_
 simp (disch:=omega) [zz]
 refine qO hb rfl rfl (by simp) (by simp[qR,TV.er,AV.er,AV.ers,DX,CB,fxA,fxB]) ?_
 clear hb
 simp (disch:=omega) [zz]
 refine qO hr rfl rfl (by simp) (by simp[qR,coC,TV.er,AV.er,AV.ers,DX,CB,fxA,fxB,wH]) ?_
 clear hr
 simp (disch:=omega) [zz,z7,k0,k1,jX,wH,Tryz.f5]
def zoD (o:wZ):Prop:=o.outs.length<=9223372036854775807/\o.reads.length<=9223372036854775807
theorem zaX (a b:List jK) (ha:a.length<=9223372036854775807) (hb:b.length<=9223372036854775807) :
  PC Tryz.prog 18 [.av (.slice 43) (qL a),.av (.slice 43) (qL b)] (.av .bool (.b (decide (a=b)))):=by
 refine zow Tryz.func18 cf0 fun imm0 w0=>?_
 by_cases hn:a.length=b.length
 rotate_left
 ·have hn':¬(a.length:Int)=b.length:=by omega
  have hne:¬a=b:=fun e=>hn (by rw[e])
  simp (disch:=omega) [zz,hn',qL,hne,Tryz.f18]
 have hn':(a.length:Int)=b.length:=by omega
 simp (disch:=omega) [zz,hn',qL]
 refine AT.loop' (α:=Nat) (fun k=>St.of [(0,.av (.slice 43) (qL a)),(1,.av (.slice 43) (qL b)),(4,.cst (.bool false)),(5,.av (.int .i64) (.i .i64 k))] [] (fun _=>0) [])
  (fun k=>k<=b.length/\∀i,i<k->∀(h1:i<a.length) (h2:i<b.length),a[i]=b[i]) (fun k=>b.length-k) 0 ?_ ?_ ?_
 ·apply Le.of<;>simp[le9,qL]<;>try omega
 ·exact⟨by omega,fun i h=>by omega⟩
 rintro k ⟨hk,hall⟩ KL hN hE
 refine zrd cf0 ?_
 by_cases hlt:k<b.length
 ·have hlt':(k:Int)<b.length:=by omega
  have hga:=kG zK a k (by omega)
  have hgb:=kG zK b k hlt
  have hlta:(k:Int)<a.length:=by omega
  by_cases hc:a[k]=b[k]
  ·simp (disch:=omega) [zz,hlt',hlta,hga,hgb,qL,WS,hc]
   (repeat with_reducible refine om ?_)
   refine hN _ (k+1) ?_ ⟨by omega,fun i hi h1 h2=>?_⟩ (by omega)
   ·apply Le.of<;>simp[le9,qL]<;>try omega
   ·rcases Nat.lt_or_ge i k with h|h
    ·exact hall i h h1 h2
    ·have:i=k:=by omega
     subst this;exact hc
  ·have hne:¬a=b:=fun e=>hc (by subst e;rfl)
   simp (disch:=omega) [zz,hlt',hlta,hga,hgb,qL,WS,hc]
   (repeat with_reducible refine om ?_)
   refine hE _ _ (by simp) ?_
   simp (disch:=omega) [zz,Tryz.f18,hne]
 ·have hlt':¬(k:Int)<b.length:=by omega
  have hlta:¬(k:Int)<a.length:=by omega
  simp (disch:=omega) [zz,hlt',hlta,qL]
  refine hE _ _ (by simp) ?_
  have:a=b:=WI hn fun i h1 h2=>hall i (by omega) h1 h2
  simp (disch:=omega) [zz,Tryz.f18,this]
theorem zdq (a b:wZ) (ha:zoD a) (hb:zoD b) :
  PC Tryz.prog 17 [.av (q9 Tryz.prog 31) (z7 a),.av (q9 Tryz.prog 31) (z7 b)] (.av .bool (.b (decide (a=b)))):=by
 have hf:=zaX a.outs b.outs ha.1 hb.1
 have hbr:=hb.2
 have har:=ha.2
 have e1:=j6 a.outs
 have e2:=j6 b.outs
 have hd:=zkN (a:=a) (b:=b)
 refine zow Tryz.func17 cf0 fun imm0 w0=>?_
 by_cases h1:a.kind=b.kind
 rotate_left
 ·have hne:¬a=b:=fun e=>h1 (by rw[e])
  simp (disch:=omega) [zz,z7,h1,hne,Tryz.f17]
 by_cases h2:a.why=b.why
 rotate_left
 ·have hne:¬a=b:=fun e=>h2 (by rw[e])
  simp (disch:=omega) [zz,z7,h1,h2,hne,Tryz.f17]
 by_cases hn:a.reads.length=b.reads.length
 rotate_left
 ·have hn':¬(a.reads.length:Int)=b.reads.length:=by omega
  have hne:¬a=b:=fun e=>hn (by rw[e])
  simp (disch:=omega) [zz,z7,zC,h1,h2,hn',hne,Tryz.f17]
 have hn':(a.reads.length:Int)=b.reads.length:=by omega
 simp (disch:=omega) [zz,z7,zC,h1,h2,hn']
 refine AT.loop' (α:=Nat) (fun k=>St.of [(2,.loc 2 []),(3,.loc 3 []),(4,.cst (.bool false)),(5,.av (.int .i64) (.i .i64 k))] [(2,(q9 Tryz.prog 31,.agg [.i .i64 b.kind,.i .i64 b.why,qL a.outs,.sl .no (a.reads.map qX)])),(3,(q9 Tryz.prog 31,.agg [.i .i64 b.kind,.i .i64 b.why,qL b.outs,.sl .no (b.reads.map qX)]))] (fun _=>0) [])
  (fun k=>k<=b.reads.length/\∀i,i<k->∀(h1:i<a.reads.length) (h2:i<b.reads.length),a.reads[i]=b.reads[i]) (fun k=>b.reads.length-k) 0 ?_ ?_ ?_
 ·apply Le.of<;>simp[zR,qI,z6]<;>try omega
 ·exact⟨by omega,fun i h=>by omega⟩
 rintro k ⟨hk,hall⟩ KL hN hE
 refine zrd cf0 ?_
 by_cases hlt:k<b.reads.length
 ·have hlt':(k:Int)<b.reads.length:=by omega
  have hga:=kG qX a.reads k (by omega)
  have hgb:=kG qX b.reads k hlt
  have hlta:(k:Int)<a.reads.length:=by omega
  by_cases hc:a.reads[k]=b.reads[k]
  ·simp (disch:=omega) [zz,hlt',hlta,hga,hgb,WZ,hc]
   (repeat with_reducible refine om ?_)
   refine hN _ (k+1) ?_ ⟨by omega,fun i hi h1 h2=>?_⟩ (by omega)
   ·apply Le.of<;>simp[zR,qI,z6]<;>try omega
   ·rcases Nat.lt_or_ge i k with h|h
    ·exact hall i h h1 h2
    ·have:i=k:=by omega
     subst this;exact hc
  ·have hne:¬a=b:=fun e=>hc (by subst e;rfl)
   simp (disch:=omega) [zz,hlt',hlta,hga,hgb,WZ,hc]
   (repeat with_reducible refine om ?_)
   refine hE _ _ (by simp) ?_
   simp (disch:=omega) [zz,Tryz.f17,hne]
 ·have hlt':¬(k:Int)<b.reads.length:=by omega
  have hlta:¬(k:Int)<a.reads.length:=by omega
  simp (disch:=omega) [zz,hlt',hlta]
  refine hE _ _ (by simp) ?_
  have h4:a.reads=b.reads:=WI hn fun i h1 h2=>hall i (by omega) h1 h2
  simp (disch:=omega) [zz]
  refine qO hf rfl rfl (by simp) (by simp[qR,TV.er,AV.er,e1,e2]) ?_
  by_cases h3:a.outs=b.outs
  ·have he:a=b:=hd.2 ⟨h1,h2,h3,h4⟩
   simp (disch:=omega) [zz,h3,he,Tryz.f17]
  ·have hne:¬a=b:=fun e=>h3 (by rw[e])
   simp (disch:=omega) [zz,h3,hne,Tryz.f17]
structure zlx (r:V9):Prop where
 o:r.outs.length<=9223372036854775807
 f:r.files.length<=9223372036854775807
 d:∀o∈r.outs,zoD o
theorem zlx.l {r:V9} (h:zlx r):zob r:=⟨h.o,h.f,fun o ho=>by
 obtain⟨h1,h2⟩:=h.d o ho
 exact⟨by omega,by omega⟩⟩
theorem zkA (a b:V9) (ha:zlx a) (hb:zlx b) :
  PC Tryz.prog 7 [.av YQ (kB a),.av YQ (kB b)] (.av .bool (.b (decide (a.outs=b.outs)&&decide (a.files=b.files)))):=by
 have hf:=zaX a.files b.files ha.f hb.f
 have e1:=j6 a.files
 have e2:=j6 b.files
 have hbo:=hb.o
 refine zow Tryz.func7 cf0 fun imm0 w0=>?_
 by_cases hn:a.outs.length=b.outs.length
 rotate_left
 ·have hn':¬(a.outs.length:Int)=b.outs.length:=by omega
  have hne:¬a.outs=b.outs:=fun e=>hn (by rw[e])
  simp (disch:=omega) [zz,kB,yA,hn',hne,Tryz.f7]
 have hn':(a.outs.length:Int)=b.outs.length:=by omega
 simp (disch:=omega) [zz,kB,yA,hn']
 refine AT.loop' (α:=Nat) (fun k=>St.of [(2,.loc 2 []),(3,.loc 3 []),(4,.cst (.bool false)),(5,.av (.int .i64) (.i .i64 k))] [(2,(YQ,kB a)),(3,(YQ,kB b))] (fun _=>0) [])
  (fun k=>k<=b.outs.length/\∀i,i<k->∀(h1:i<a.outs.length) (h2:i<b.outs.length),a.outs[i]=b.outs[i]) (fun k=>b.outs.length-k) 0 ?_ ?_ ?_
 ·apply Le.of<;>simp[zR,qI,z6,kB,yA]<;>try omega
 ·exact⟨by omega,fun i h=>by omega⟩
 rintro k ⟨hk,hall⟩ KL hN hE
 refine zrd cf0 ?_
 by_cases hlt:k<b.outs.length
 ·have hlt':(k:Int)<b.outs.length:=by omega
  have hlt2:k<a.outs.length:=by omega
  have hga:=kG z7 a.outs k hlt2
  have hgb:=kG z7 b.outs k hlt
  have hlta:(k:Int)<a.outs.length:=by omega
  have ho:=zdq a.outs[k] b.outs[k] (ha.d _ (List.getElem_mem hlt2)) (hb.d _ (List.getElem_mem hlt))
  obtain⟨m,hm⟩:∃m,m=a.outs[k]:=⟨_,rfl⟩
  obtain⟨f,hfm⟩:∃f,f=b.outs[k]:=⟨_,rfl⟩
  rw[<-hm]at hga ho
  rw[<-hfm]at hgb ho
  have hme:=Q5 m
  have hfe:=Q5 f
  obtain⟨X,hX⟩:∃X,X=z7 m:=⟨_,rfl⟩
  obtain⟨Y,hY⟩:∃Y,Y=z7 f:=⟨_,rfl⟩
  rw[<-hX]at hga ho hme
  rw[<-hY]at hgb ho hfe
  simp (disch:=omega) [zz,hlt',hlta,hga,hgb,kB,yA]
  (repeat with_reducible refine om ?_)
  refine kP ho rfl rfl (by simp) (by simp[qR,coC,TV.er,hme,hfe]) ?_
  by_cases hc:m=f
  ·simp (disch:=omega) [zz,hc]
   (repeat with_reducible refine om ?_)
   refine hN _ (k+1) ?_ ⟨by omega,fun i hi h1 h2=>?_⟩ (by omega)
   ·apply Le.of<;>simp[zR,qI,z6,kB,yA]<;>try omega
   ·rcases Nat.lt_or_ge i k with h|h
    ·exact hall i h h1 h2
    ·have:i=k:=by omega
     subst this;rw[<-hm,<-hfm];exact hc
  ·have hne:¬a.outs=b.outs:=fun e=>hc (by rw[hm,hfm];simp only[e])
   simp (disch:=omega) [zz,hc]
   (repeat with_reducible refine om ?_)
   refine hE _ _ (by simp) ?_
   simp (disch:=omega) [zz,Tryz.f7,hne]
 ·have hlt':¬(k:Int)<b.outs.length:=by omega
  have hlta:¬(k:Int)<a.outs.length:=by omega
  simp (disch:=omega) [zz,hlt',hlta,kB,yA]
  refine hE _ _ (by simp) ?_
  have h4:a.outs=b.outs:=WI hn fun i h1 h2=>hall i (by omega) h1 h2
  simp (disch:=omega) [zz]
  refine qO hf rfl rfl (by simp) (by simp[qR,TV.er,AV.er,e1,e2]) ?_
  simp (disch:=omega) [zz,h4,Tryz.f7]
structure zhI (r:V9):Prop where
 o:r.outs.length<=9223372036854775807
 f:r.files.length<=9223372036854775807
 d:∀o∈r.outs,o.outs.length<=9223372036854775807/\o.reads.length<=9223372036854775807
theorem zhI.m {r:V9} (h:zhI r):zlx r:=⟨h.o,h.f,h.d⟩
theorem zbK (r:V9):(kB r).er=kB r:=by
 have h1:=vP r.outs
 have h2:=j6 r.files
 simp[kB,AV.er,AV.ers,h1,h2,AV.ers_eq,Function.comp_def]
abbrev zoc:Cfg:=⟨fun _=>false,fun _=>false⟩
theorem D5 (a b:V9) (ha:zhI a) (hb:zhI b):PC Tryz.prog 3 [.av YQ (kB a),.av YQ (kB b)] (.av .bool (.b true)):=by
 have hfx:=zg4
 have e1:=zbK a
 have e2:=zbK b
 have s1:=c9 a b ha.m.l hb.m.l
 have s2:=zkA a b ha.m hb.m
 have s3:=c9 b a hb.m.l ha.m.l
 have s4:=c9 a a ha.m.l ha.m.l
 obtain⟨V,hV⟩:∃V,V=(decide (a.outs=b.outs)&&decide (a.files=b.files)):=⟨_,rfl⟩
 have h3:(decide (b.outs=a.outs)&&decide (b.files=a.files))=V:=by rw[hV];simp only[eq_comm]
 have h4:(decide (a.outs=a.outs)&&decide (a.files=a.files))=true:=by simp
 rw[<-hV]at s1 s2
 rw[h3]at s3
 rw[h4]at s4
 clear hV h3 h4
 obtain⟨A,hA⟩:∃A,A=kB a:=⟨_,rfl⟩
 obtain⟨B,hB⟩:∃B,B=kB b:=⟨_,rfl⟩
 rw[<-hA]at e1 s1 s2 s3 s4 |-
 rw[<-hB]at e2 s1 s2 s3 |-
 obtain⟨AB,hAB⟩:∃AB,AB=[A,B]:=⟨_,rfl⟩
 have hl2:AB.length=2:=by rw[hAB];rfl
 have zZ:∀k,k<2->∃r:V9,zhI r/\AB[k]?=some (kB r):=fun k hk=>by
  rcases Nat.lt_or_ge k 1 with h|h
  ·have:k=0:=by omega
   subst this;exact⟨a,ha,by rw[hAB,hA];rfl⟩
  ·have:k=1:=by omega
   subst this;exact⟨b,hb,by rw[hAB,hB];rfl⟩
 refine zow Tryz.func3 zoc fun imm0 w0=>?_
 simp (disch:=omega) [zz]
 refine AT.loop' (α:=Nat) (fun k=>St.of [(2,.loc 2 []),(3,.loc 3 []),(12,.av (.slice 26) (.sl .full AB)),(13,.av (.int .i64) (.i .i64 2)),(14,.av (.int .i64) (.i .i64 k))] [(2,(YQ,A)),(3,(YQ,B))] (fun _=>0) [])
  (fun k=>k<=2) (fun k=>2-k) 0 ?_ ?_ ?_
 ·apply Le.of<;>simp[zR,qI,z6,hAB]<;>try omega
 ·omega
 rintro k hk KL hN hE
 refine zrd zoc ?_
 by_cases hlt:k<2
 ·have hlt':(k:Int)<2:=by omega
  obtain⟨r,hr,hg⟩:=zZ k hlt
  have hro:=hr.o
  have hrf:=hr.f
  have hre:kB r=.agg [.sl .no (r.outs.map z7),.sl .no (r.ran.map (.i .i64 ·)),.sl .no (r.took.map (.i .i64 ·)),.sl .no (r.files.map zK)]:=rfl
  rw[hre]at hg
  have hg2:AB[k]'(by omega)=.agg [.sl .no (r.outs.map z7),.sl .no (r.ran.map (.i .i64 ·)),.sl .no (r.took.map (.i .i64 ·)),.sl .no (r.files.map zK)]:=Option.some.inj (by rw[<-hg,List.getElem?_eq_getElem])
  clear zZ hre
  simp (disch:=omega) [zz,hlt',hg,hg2,hl2]
  refine AT.loop' (α:=Nat × Int) (fun q=>St.of [(2,.loc 2 []),(3,.loc 3 []),(7,.av (.int .i64) (.i .i64 q.2)),(12,.av (.slice 26) (.sl .full AB)),(13,.av (.int .i64) (.i .i64 2)),(14,.av (.int .i64) (.i .i64 k)),(26,.av (.slice 31) (.sl .no (r.outs.map z7))),(27,.av (.int .i64) (.i .i64 r.outs.length)),(28,.av (.int .i64) (.i .i64 q.1))] [(2,(YQ,A)),(3,(YQ,B))] (fun _=>0) [])
   (fun q=>q.1<=r.outs.length) (fun q=>r.outs.length-q.1) (0,IntKind.i64.wrap ((r.outs.length:Int)+r.files.length)) ?_ (by simp) ?_
  ·apply Le.of<;>simp[zR,qI,z6]<;>try omega
  rintro⟨j,m⟩ hj KL2 hN2 hE2
  simp only at hj hN2
  refine zrd zoc ?_
  by_cases hjl:j<r.outs.length
  ·have hjl':(j:Int)<r.outs.length:=by omega
   have hgo:=kG z7 r.outs j hjl
   obtain⟨o,ho⟩:∃o,o=r.outs[j]:=⟨_,rfl⟩
   rw[<-ho]at hgo
   simp (disch:=omega) [zz,hjl',hgo,z7,qL,zC]
   refine hN2 _ (j+1,IntKind.i64.wrap (m+IntKind.i64.wrap ((o.outs.length:Int)+o.reads.length))) ?_ (by simp only;omega) (by simp only;omega)
   apply Le.of<;>simp[zR,qI,z6]<;>try omega
  ·have hjl':¬(j:Int)<r.outs.length:=by omega
   simp (disch:=omega) [zz,hjl']
   refine hE2 _ _ (by simp) ?_
   clear hN2 hE2
   by_cases hm:200<m
   ·simp (disch:=omega) [zz,hm]
    refine zcv hfx ?_
    simp (disch:=omega) [zz]
    refine hE _ _ (by simp) ?_
    simp (disch:=omega) [zz,Tryz.f3]
   ·simp (disch:=omega) [zz,hm]
    refine hN _ (k+1) ?_ (by omega) (by omega)
    apply Le.of<;>simp[zR,qI,z6]<;>try omega
 have hk2:k=2:=by omega
 subst hk2
 have hlt':¬((2:Nat):Int)<2:=by omega
 clear zZ
 simp (disch:=omega) [zz,hlt']
 refine hE _ _ (by simp) ?_
 clear hN hE
 simp (disch:=omega) [zz]
 refine kP hfx rfl rfl (by simp) (by simp[qR,TV.er,AV.er]) ?_
 simp (disch:=omega) [zz]
 (repeat with_reducible refine om ?_)
 refine kP s1 rfl rfl (by simp) (by simp[qR,coC,TV.er,e1,e2]) ?_
 simp (disch:=omega) [zz]
 (repeat with_reducible refine om ?_)
 refine kP s2 rfl rfl (by simp) (by simp[qR,coC,TV.er,e1,e2]) ?_
 simp (disch:=omega) [zz]
 (repeat with_reducible refine om ?_)
 refine kP s3 rfl rfl (by simp) (by simp[qR,coC,TV.er,e1,e2]) ?_
 simp (disch:=omega) [zz]
 (repeat with_reducible refine om ?_)
 refine kP s1 rfl rfl (by simp) (by simp[qR,coC,TV.er,e1,e2]) ?_
 simp (disch:=omega) [zz]
 (repeat with_reducible refine om ?_)
 refine kP s4 rfl rfl (by simp) (by simp[qR,coC,TV.er,e1,e2]) ?_
 simp (disch:=omega) [zz]
 (repeat with_reducible refine om ?_)
 simp (disch:=omega) [zz,Tryz.f3]
end
section
variable [Sel]
theorem uO {α:Type} {f:α->AV} {q:AV->Prop} {r:α->Prop} {xs:List AV} (h:∀y∈xs,q y) (hd:∀y,q y->∃a,y=f a/\r a):∃l:List α,xs=l.map f/\∀a∈l,r a:=by
 induction xs with
 | nil=>exact⟨[],rfl,by simp⟩
 | cons y ys ih =>
  obtain⟨a,ha,hr⟩:=hd y (h y (by simp))
  obtain⟨l,hl,hl2⟩:=ih fun z hz=>h z (by simp[hz])
  exact⟨a::l,by simp[ha,hl],by simpa using⟨hr,hl2⟩⟩
theorem zor {n:Nat} {x:AV} (h:WTy Tryz.prog (n+2) 95 x):∃d:Dig,x=JG d/\d.length=32:=by
 simp only[WTy,zqC,ty5]at h
 obtain⟨xs,rfl,hlen,h⟩:=h
 obtain⟨l,hl,_⟩:=uO (α:=UInt8) (f:=fun b=>AV.i .u8 b.toNat) (r:=fun _=>True) h (by
  rintro y ⟨m,rfl,hm⟩
  have hx:0<=m/\m<=255:=by simpa[Lit.wf,IntKind.min,IntKind.max,IntKind.signed,IntKind.bits]using hm
  refine⟨UInt8.ofNat m.toNat,?_,trivial⟩
  simp only[AV.i.injEq,true_and]
  have:(UInt8.ofNat m.toNat).toNat=m.toNat:=by simp;omega
  rw[this];omega)
 subst hl
 exact⟨l,rfl,by simpa using hlen⟩
def okR (r:KH):Prop:=r.sum.length=32/\r.path.length<=maxLen
theorem zm0 {n:Nat} {x:AV} (h:WTy Tryz.prog (n+3) 97 x):∃r:KH,x=qX r/\okR r:=by
 rw[WTy]at h
 simp only[zq4]at h
 obtain⟨xs,rfl,hlen,h⟩:=h
 match xs,hlen with
 | [a,b,c],_ =>
  have h1:=h 0 9 a rfl rfl
  have h2:=h 1 4 b rfl rfl
  have h3:=h 2 95 c rfl rfl
  simp only[WTy,ty9]at h1
  simp only[WTy,ty4]at h2
  obtain⟨s,rfl,hs⟩:=h1
  obtain⟨q,rfl⟩:=h2
  obtain⟨d,rfl,hd⟩:=zor h3
  exact⟨⟨s,q,d⟩,rfl,hd,hs⟩
theorem zjl {n:Nat} {x:AV} (h:WTy Tryz.prog (n+4) 29 x):∃l:List KH,x=zC l/\l.length<=maxLen/\∀r∈l,okR r:=by
 rw[WTy]at h
 simp only[zq3]at h
 obtain⟨xs,rfl,hlen,h⟩:=h
 obtain⟨l,rfl,h2⟩:=uO h fun y hy=>zm0 hy
 exact⟨l,rfl,by simpa using hlen,h2⟩
theorem zpK:maxLen<=9223372036854775807:=by decide
def okF (f:jK):Prop:=f.path.length<=maxLen/\f.data.length<=maxLen
def znA (o:wZ):Prop:=(o.outs.length<=maxLen/\∀f∈o.outs,okF f)/\o.reads.length<=maxLen/\∀r∈o.reads,okR r
theorem zlY {n:Nat} {x:AV} (h:WTy Tryz.prog (n+3) 43 x):∃f:jK,x=zK f/\okF f:=by
 rw[WTy]at h
 simp only[zqA]at h
 obtain⟨xs,rfl,hlen,h⟩:=h
 match xs,hlen with
 | [a,b],_ =>
  have h1:=h 0 9 a rfl rfl
  have h2:=h 1 9 b rfl rfl
  simp only[WTy,ty9]at h1 h2
  obtain⟨s,rfl,hs⟩:=h1
  obtain⟨q,rfl,hq⟩:=h2
  exact⟨⟨s,q⟩,rfl,hs,hq⟩
theorem ze8 {n:Nat} {x:AV} (h:WTy Tryz.prog (n+4) 24 x):∃l:List jK,x=qL l/\l.length<=maxLen/\∀r∈l,okF r:=by
 rw[WTy]at h
 simp only[zqj]at h
 obtain⟨xs,rfl,hlen,h⟩:=h
 obtain⟨l,rfl,h2⟩:=uO h fun y hy=>zlY hy
 exact⟨l,rfl,by simpa using hlen,h2⟩
theorem zpe {n:Nat} {x:AV} (h:WTy Tryz.prog (n+1) 3 x):∃m:Int,x=.i .i64 m:=by
 simp only[WTy,ty3]at h
 obtain⟨m,rfl,hm⟩:=h
 exact⟨m,rfl⟩
theorem zqe {n:Nat} {x:AV} (h:WTy Tryz.prog (n+1) 28 x):∃m:Int,x=.i .i64 m:=by
 simp only[WTy,zqt]at h
 obtain⟨m,rfl,hm⟩:=h
 exact⟨m,rfl⟩
theorem znW {n:Nat} {x:AV} (h:WTy Tryz.prog (n+5) 31 x):∃o:wZ,x=z7 o/\znA o:=by
 rw[WTy]at h
 simp only[zqs]at h
 obtain⟨xs,rfl,hlen,h⟩:=h
 match xs,hlen with
 | [a,b,c,d],_ =>
  obtain⟨k,rfl⟩:=zpe (h 0 3 a rfl rfl)
  obtain⟨w,rfl⟩:=zqe (h 1 28 b rfl rfl)
  obtain⟨f,rfl,h1⟩:=ze8 (h 2 24 c rfl rfl)
  obtain⟨r,rfl,h2⟩:=zjl (h 3 29 d rfl rfl)
  exact⟨⟨k,w,f,r⟩,rfl,h1,h2⟩
end
section
variable [Sel] [SelPow] [SelMax]
theorem zni {n:Nat} {x:AV} (h:WTy Tryz.prog (n+6) 22 x):∃l:List wZ,x=yA l/\l.length<=maxLen/\∀o∈l,znA o:=by
 rw[WTy]at h
 simp only[zqz]at h
 obtain⟨xs,rfl,hlen,h⟩:=h
 obtain⟨l,rfl,h2⟩:=uO h fun y hy=>znW hy
 exact⟨l,rfl,by simpa using hlen,h2⟩
theorem zlE {n:Nat} {x:AV} (h:WTy Tryz.prog (n+2) 23 x):∃l:List Int,x=.sl .no (l.map (.i .i64 ·)):=by
 rw[WTy]at h
 simp only[zqE]at h
 obtain⟨xs,rfl,hlen,h⟩:=h
 obtain⟨l,rfl,_⟩:=uO (α:=Int) (f:=fun m=>AV.i .i64 m) (r:=fun _=>True) h fun y hy=>by obtain⟨m,rfl⟩:=zpe hy;exact⟨m,rfl,trivial⟩
 exact⟨l,rfl⟩
theorem zjD {n:Nat} {x:AV} (h:WTy Tryz.prog (n+7) 26 x):∃r:V9,x=kB r/\zhI r:=by
 rw[WTy]at h
 simp only[zp9]at h
 obtain⟨xs,rfl,hlen,h⟩:=h
 match xs,hlen with
 | [a,b,c,d],_ =>
  obtain⟨o,rfl,h1,h2⟩:=zni (h 0 22 a rfl rfl)
  obtain⟨p,rfl⟩:=zlE (h 1 23 b rfl rfl)
  obtain⟨q,rfl⟩:=zlE (h 2 23 c rfl rfl)
  obtain⟨f,rfl,h3,h4⟩:=ze8 (h 3 24 d rfl rfl)
  have hx:=zpK
  exact⟨⟨o,p,q,f⟩,rfl,Nat.le_trans h1 hx,Nat.le_trans h3 hx,fun o ho=>⟨Nat.le_trans (h2 o ho).1.1 hx,Nat.le_trans (h2 o ho).2.1 hx⟩⟩
end
end Go.Proofs.YtdkieabmeiojjaaGreatDoor
