/- The document's disk behind a crash; are two disks alike? The program. No condition. -/
import Derived.Test.YtognnffjdckalaaGreatDoorKR9ToKX1
set_option linter.unusedSimpArgs false
set_option linter.unusedVariables false
set_option linter.unusedSectionVars false
set_option maxHeartbeats 64000000
set_option maxRecDepth 100000
namespace Go.Proofs.YtognnffjdckalaaGreatDoor
open Go Go.Ab
open Classical
variable [Sel] [SelPow] [SelErr]
theorem zfx (l:List kJ) (n:Int) (hl:l.length<=1000000):PC Tryz.prog 37 [.av RdT (jP l n)] (.av (.slice 9) (.sl .no (qG (l.map (·.1))))):=by
 obtain⟨G,hG⟩:∃G:Nat->List Txt,G=fun i=>(l.take i).map (·.1):=⟨_,rfl⟩
 have hG0:G 0=[]:=by rw[hG];rfl
 have hGn:l.map (·.1)=G l.length:=by rw[hG];simp
 have hGs:∀i (h:i<l.length),G (i+1)=G i++[l[i].1]:=fun i h=>by rw[hG];simp only[List.take_succ_eq_append_getElem h,List.map_append,List.map_cons,List.map_nil]
 have hGl:∀i,(G i).length<=l.length:=fun i=>by rw[hG];simp;omega
 rw[hGn]
 have hle:QV l=.sl .no (l.map zE):=rfl
 refine zow Tryz.func37 cf0 fun imm0 w0=>?_
 simp (disch:=omega) [zz,jP,hle]
 refine AT.loopV (α:=Nat × Option Nat) (fun x ver=>St.of [(3,.av (.slice 9) (.sl (Z1 ver x.2) (qG (G x.1)))),(8,.av (.slice 110) (.sl .no (l.map zE))),(9,.av (.int .i64) (.i .i64 l.length)),(10,.av (.int .i64) (.i .i64 x.1))] [] ver [])
  (fun x=>x.1<=l.length) (fun x=>l.length-x.1) (0,none) ?_ ?_ ?_
 ·apply Le.of<;>simp[le9,hle,hG0,Z1,qG]<;>try omega
 ·simp
 rintro⟨i,o⟩ ver hi KL hN hE
 simp only at hi hN
 refine zrd cf0 ?_
 by_cases hlt:i<l.length
 ·have hlt':(i:Int)<l.length:=by omega
  have hg:=XU l i hlt
  have hGi:=hGs i hlt
  have hGl1:=hGl i
  obtain⟨p,hpe⟩:∃p,p=l[i]:=⟨_,rfl⟩
  rw[<-hpe]at hg hGi
  have hmp:zE p=.agg [.s p.1,.s p.2.data,.i .i64 p.2.sure]:=rfl
  have hslen:(qG (G i)).length=(G i).length:=wP _
  simp (disch:=omega) [zz,hlt',hg,hmp]
  refine jV (by rw[hslen,show Tryz.prog.bytesOf 9=16 by kernel_rfl];simp;omega) (by rw[hslen];simp;omega) (by kernel_rfl) (by kernel_rfl) fun ver'=>?_
  simp (disch:=omega) [zz]
  refine hN _ (i+1,some 18) ?_ (by simp only;omega) (by simp only;omega)
  apply Le.of<;>simp[le9,hGi,wE,qG,Z1]<;>try omega
 ·have hlt':¬(i:Int)<l.length:=by omega
  have hie:i=l.length:=by omega
  subst hie
  simp (disch:=omega) [zz,hlt']
  refine hE _ _ (by simp) ?_
  simp (disch:=omega) [zz,Tryz.f37,qG,AV.ers_eq,Function.comp_def]
theorem zkX (a:List Txt) (ha:a.length<=1000000):PC Tryz.prog 35 [.av (.slice 9) (.sl .no (qG a)),.av (.slice 9) (.sl .no (qG a))] (.av .bool (.b true)):=by
 have hl:(qG a).length=a.length:=wP a
 refine zow Tryz.func35 cf0 fun imm0 w0=>?_
 simp (disch:=omega) [zz]
 refine AT.loop' (α:=Nat) (fun k=>St.of [(0,.av (.slice 9) (.sl .no (qG a))),(1,.av (.slice 9) (.sl .no (qG a))),(12,.av (.int .i64) (.i .i64 a.length)),(13,.av (.int .i64) (.i .i64 k))] [] (fun _=>0) [])
  (fun k=>k<=a.length) (fun k=>a.length-k) 0 ?_ ?_ ?_
 ·apply Le.of<;>simp[le9,hl]<;>try omega
 ·simp
 rintro k hk KL hN hE
 refine zrd cf0 ?_
 by_cases hlt:k<a.length
 ·have hlt':(k:Int)<a.length:=by omega
  have hg:=KC a k hlt
  have hgg:(qG a)[k]'(by omega)=.s a[k]:=by
   rw[List.getElem?_eq_getElem (by omega)]at hg
   exact Option.some.inj hg
  simp (disch:=omega) [zz,hlt',hlt,hgg,hl]
  (repeat with_reducible refine om ?_)
  refine hN _ (k+1) ?_ (by omega) (by omega)
  apply Le.of<;>simp[le9]<;>try omega
 ·have hlt':¬(k:Int)<a.length:=by omega
  simp (disch:=omega) [zz,hlt']
  refine hE _ _ (by simp) ?_
  simp (disch:=omega) [zz,Tryz.f35]
theorem zn4 (d:DV):(flD d).map (·.1)=kB d:=by
 obtain⟨m,n,c⟩:=d
 cases m<;>cases n<;>simp[uE,YL,kB]
theorem zqa {d:DV} {p:kJ} (h:p∈flD d):∃b,p.1=nmB b/\jO b d=some p.2:=by
 obtain⟨m,n,c⟩:=d
 cases m<;>cases n<;>simp[uE,YL]at h
 ·exact⟨true,by rw[h];rfl,by rw[h];rfl⟩
 ·exact⟨false,by rw[h];rfl,by rw[h];rfl⟩
 ·rcases h with h|h
  ·exact⟨false,by rw[h];rfl,by rw[h];rfl⟩
  ·exact⟨true,by rw[h];rfl,by rw[h];rfl⟩
theorem zkC (B M:Nat) (hBM:M≠B) (o:Bool) (d:DV) :
  q6 Tryz.prog 11 [.av .ptr (.ptr B QI []),.av RdT (rdE d)] (zA B M o d) fun r H'=>r=.av (.int .i64) (.i .i64 1)/\H'=zA B M o d:=by
 have hl:=WH d
 have hnm:=zfx (flD d) d.left (by omega)
 rw[zn4]at hnm
 have hsm:=zkX (kB d) (by have:=pU d;omega)
 have e0:rdE d=jP (flD d) d.left:=rfl
 have e1:=jX d
 rw[<-e0]at hnm
 have hle:rdE d=.agg [.sl .no ((flD d).map zE),.i .i64 d.left]:=rfl
 have hse:AV.ers (qG (kB d))=qG (kB d):=by simp[qG,AV.ers_eq,Function.comp_def,AV.er]
 have hdn:=zcy B M hBM o d
 have hdnE:q6 Tryz.prog 36 [.av .ptr (.ptr B QI [])] (q7.er (zA B M o d)) fun r H'=>r=.av (.slice 9) (.sl .no (qG (kB d)))/\H'=zA B M o d:=by
  rw[JG]
  exact hdn
 refine zov Tryz.func11 cf0 fun imm0 w0=>?_
 simp (disch:=omega) [zz]
 (repeat with_reducible refine om ?_)
 refine QQ (zA B M o d) [] (by simp) hdnE rfl rfl (by simp) (by simp[q9,TV.er,AV.er]) ?_
 simp (disch:=omega) [zz]
 (repeat with_reducible refine om ?_)
 refine XF hnm rfl rfl (by simp) (by simp[q9,TV.er,AV.er,e1]) ?_
 simp (disch:=omega) [zz]
 (repeat with_reducible refine om ?_)
 refine XF hsm rfl rfl (by simp) (by simp[q9,TV.er,AV.er,Tok.k,hse]) ?_
 simp (disch:=omega) [zz,hle]
 (repeat with_reducible refine om ?_)
 refine AT.loop' (α:=Nat) (fun k=>St.of [(0,.av .ptr (.ptr B QI [])),(20,.av (.slice 110) (.sl .no ((flD d).map zE))),(21,.av (.int .i64) (.i .i64 (flD d).length)),(22,.av (.int .i64) (.i .i64 k))] [] (fun _=>0) (zA B M o d))
  (fun k=>k<=(flD d).length) (fun k=>(flD d).length-k) 0 ?_ ?_ ?_
 ·apply Le.of<;>simp[le9]<;>try omega
 ·simp
 rintro k hk KL hN hE
 refine zrd cf0 ?_
 by_cases hlt:k<(flD d).length
 ·have hlt':(k:Int)<(flD d).length:=by omega
  have hg:=XU (flD d) k hlt
  obtain⟨b,hb1,hb2⟩:=zqa (List.getElem_mem hlt)
  obtain⟨p,hp⟩:∃p,p=(flD d)[k]:=⟨_,rfl⟩
  rw[<-hp]at hg hb1 hb2
  have hmp:zE p=.agg [.s p.1,.s p.2.data,.i .i64 p.2.sure]:=rfl
  have hrd:=zeO B M hBM o b d
  rw[hb2,<-hb1]at hrd
  simp (disch:=omega) [zz,hlt',hg,hmp]
  refine qM (zA B M o d) [] (by simp) rfl (by simp[qH]) (by simp) (R:=fun r H'=>r=.tup [(.str,.s p.2.data),(.int .i64,.i .i64 0)]/\H'=zA B M o d) ?_ ?_
  ·rw[JG]
   exact q6.args (hrd.mono fun r H' h=>by simpa[JW]using h) (by simp[q9,TV.er,AV.er])
  rintro r' H' ⟨rfl,rfl⟩ _
  refine⟨zA B M o d,by rw[List.append_nil];exact HSub.refl _,?_⟩
  simp (disch:=omega) [zz]
  refine hN _ (k+1) ?_ (by omega) (by omega)
  apply Le.of<;>simp[le9]<;>try omega
 ·have hlt':¬(k:Int)<(flD d).length:=by omega
  simp (disch:=omega) [zz,hlt']
  refine hE _ _ (by simp) ?_
  simp (disch:=omega) [zz,Tryz.f11]
def crZ (ps:List Int) (x:List kJ × Nat) (p:kJ):List kJ × Nat:=(x.1++[(p.1,YD ((ps.drop x.2).headD 0) p.2)],if p.2.data.length<=p.2.sure then x.2 else x.2+1)
theorem zq7 (ps:List Int) (d:DV):((flD d).foldl (crZ ps) ([],0)).1=flD (kP ps d):=by
 obtain⟨m,n,c⟩:=d
 cases m with
 | none=>cases n<;>simp[uE,YL,crZ,kP,xB,YR]
 | some f =>
  cases n with
  | none=>simp[uE,YL,crZ,kP,xB,YR]
  | some g =>
   by_cases h:f.data.length<=f.sure<;>simp[uE,YL,crZ,kP,xB,YR,U1,h]
theorem zjy (ps:List Int):∀(l:List kJ) (x:List kJ × Nat),(l.foldl (crZ ps) x).1.length=x.1.length+l.length/\(l.foldl (crZ ps) x).2<=x.2+l.length
 | [],x=>⟨by simp,by simp⟩
 | p::l,x=>by
  obtain⟨h1,h2⟩:=zjy ps l (crZ ps x p)
  rw[List.foldl_cons]
  have h3:(crZ ps x p).1.length=x.1.length+1:=by simp[crZ]
  have h4:(crZ ps x p).2<=x.2+1:=by simp only[crZ];split<;>omega
  rw[List.length_cons]
  exact⟨by omega,by omega⟩
def zkp (e:TypeId) (l:List AV) (x:AV) (Rw:q7):Prop:=(l=[]/\x=.nsl/\Rw=[])\/∃b cap j,JK (l++j)/\l.length+j.length=cap/\x=.msl b e 0 l.length cap/\Rw=[(b,.var (.arr cap e) (.agg (l++j)))]
theorem zkp.er {e:TypeId} {l:List AV} {x:AV} {Rw:q7} (h:zkp e l x Rw):Rw.er=Rw/\x.er=x:=by
 rcases h with⟨_,rfl,rfl⟩|⟨b,cap,j,hj,_,rfl,rfl⟩
 ·exact⟨rfl,rfl⟩
 ·unfold JK at hj
  exact⟨by rw[q7.er_cons,HObj.er_var];simp only[AV.erk,hj,q7.er_nil],rfl⟩
theorem q6.nilF {P:Program} {f:FuncId} {args:List TV} {H:q7} {R R':TV->q7->Prop} (h:q6 P f args H R) (hr:∀r H',R r H'->R' r H'\/∃T y,r=.av T (.agg [.nsl,y])/\R' (.av T (.agg [.sl .no [],y])) H'):q6 P f args H R' :=
 fun imm w vs h1 h2=>(h imm w vs h1 h2).mono fun e w' ⟨v,r,imm',H',a,b,c,d,st⟩=>by
  rcases hr _ _ b with h3|⟨T,y,rfl,h3⟩
  ·exact⟨v,r,imm',H',a,h3,c,d,st⟩
  ·obtain⟨q,hv⟩:=c
   refine⟨v,_,imm',H',a,h3,⟨q,?_⟩,d,st⟩
   cases T with
   | struct fs =>
    simp only[VC]at hv |-
    match fs,hv with
    | f::fs,hv =>
     simp only[VF]at hv |-
     obtain⟨f',q',c1,c2,e0,h0,h1',h2'⟩:=hv
     refine⟨f',q',c1,c2,e0,h0,?_,h2'⟩
     simp only[VC]at h1' |-
     obtain⟨e',he,hc⟩:=h1'
     exact⟨e',none,0,he,hc,by simp,by simp[xV]⟩
    | [],hv=>simp[VF]at hv
   | arr n e2 =>
    simp only[VC]at hv |-
    obtain⟨hl,hv⟩:=hv
    refine⟨hl,?_⟩
    simp only[VL]at hv |-
    obtain⟨c1,c2,h0,h1',h2'⟩:=hv
    refine⟨c1,c2,h0,?_,h2'⟩
    simp only[VC]at h1' |-
    obtain⟨e',he,hc⟩:=h1'
    exact⟨e',none,0,he,hc,by simp,by simp[xV]⟩
   | _=>simp[VC]at hv
abbrev zt8:Cfg:=⟨fun _=>false,fun n=>n==1⟩
theorem zhS:PC Tryz.prog 9 [] (.av RdT (.agg [.nsl,.i .i64 (-1)])):=by
 refine zow Tryz.func9 zt8 fun imm0 w0=>?_
 simp (disch:=omega) [zz,Tryz.f9]
def zRF:AV:=.agg [.s [],.s [],.i .i64 0]
theorem PH (n:Nat):JK (List.replicate n zRF):=by
 unfold JK;rw[AV.erks_eq,List.map_replicate];congr 1
theorem p0 (l:List kJ):JK (l.map zE):=by unfold JK;simp[AV.erks_eq,Function.comp_def,zE,AV.erk,AV.erks]
theorem zdx {l:List kJ} {j:List AV} {i:Nat} (h:(l.map zE).length=i):(l.map zE++j).drop (i+1)=j.drop 1:=by
 rw[List.drop_append,List.drop_of_length_le (by omega),h];simp
abbrev zrH:Cfg:=⟨fun _=>false,fun n=>n==55⟩
theorem zdl (d:DV) (hd:DOK d) (hz:szF d.m<=1000000000000/\szF d.n<=1000000000000) (ps:List Int) (hps:ps.length<=1000000000) :
  q6 Tryz.prog 22 [.av RdT (rdE d),.av (.slice 3) (JX ps)] [] fun r H'=>∃x Rw,zkp 110 ((flD (kP ps d)).map zE) x Rw/\r=.av RdT (.agg [x,.i .i64 (-1)])/\Ab.HSub Rw H':=by
 have hl:=WH d
 have hep:JX ps=.sl .no (ps.map fun n=>.i .i64 n):=rfl
 have hle:rdE d=.agg [.sl .no ((flD d).map zE),.i .i64 d.left]:=rfl
 have hnw:=zhS
 obtain⟨X,hX⟩:∃X:Nat->List kJ × Nat,X=fun i=>((flD d).take i).foldl (crZ ps) ([],0):=⟨_,rfl⟩
 have hX0:X 0=([],0):=by rw[hX];rfl
 have hXn:flD (kP ps d)=(X (flD d).length).1:=by
  rw[hX]
  simp only[List.take_length]
  rw[zq7]
 have hXs:∀i (h:i<(flD d).length),X (i+1)=crZ ps (X i) (flD d)[i]:=fun i h=>by rw[hX];exact CP _ _ _ _ h
 have hXl:∀i,i<=(flD d).length->(X i).1.length=i/\(X i).2<=i:=fun i h=>by
  obtain⟨h1,h2⟩:=zjy ps ((flD d).take i) ([],0)
  rw[List.length_take,Nat.min_eq_left h]at h1 h2
  rw[hX]
  simp only[List.length_nil,Nat.zero_add]at h1 h2
  exact⟨h1,h2⟩
 rw[hXn]
 refine zov Tryz.func22 zrH fun imm0 w0=>?_
 simp (disch:=omega) [zz,hep]
 refine YE hnw rfl rfl (by simp) (by simp[q9]) ?_
 simp (disch:=omega) [zz,hle]
 refine AT.loop' (α:=Nat × AV × q7) (fun x=>St.of [(1,.av (.slice 3) (.sl .no (ps.map fun n=>.i .i64 n))),(4,.loc 4 []),(5,.loc 5 []),(6,.av (.int .i64) (.i .i64 (X x.1).2)),(13,.av (.slice 110) (.sl .no ((flD d).map zE))),(14,.av (.int .i64) (.i .i64 (flD d).length)),(15,.av (.int .i64) (.i .i64 x.1))] [(4,(RdT,.agg [.sl .full [],.i .i64 0])),(5,(RdT,.agg [x.2.1,.i .i64 (-1)]))] (fun _=>0) x.2.2)
  (fun x=>x.1<=(flD d).length/\zkp 110 ((X x.1).1.map zE) x.2.1 x.2.2) (fun x=>(flD d).length-x.1) (0,.nsl,[]) ?_ ?_ ?_
 ·apply Le.of<;>simp[le9,hX0]<;>try omega
 ·exact⟨by simp,by rw[hX0];exact .inl ⟨rfl,rfl,rfl⟩⟩
 rintro⟨i,xr,Rw⟩ ⟨hi,hxr⟩ KL hN hE
 simp only at hi hxr hN
 refine zrd zrH ?_
 by_cases hlt:i<(flD d).length
 rotate_left
 ·have hlt':¬(i:Int)<(flD d).length:=by omega
  have hie:i=(flD d).length:=by omega
  subst hie
  have hre:=hxr.er
  simp (disch:=omega) [zz,hlt']
  refine hE _ _ (by simp) ?_
  simp (disch:=omega) [zz,Tryz.f22,hre.1,hre.2]
  exact⟨_,_,hxr,rfl,HSub.refl _⟩
 have hlt':(i:Int)<(flD d).length:=by omega
 have hg:=XU (flD d) i hlt
 have hXi:=hXs i hlt
 obtain⟨hxl,hxk⟩:=hXl i hi
 obtain⟨b,hb1,hb2⟩:=zqa (List.getElem_mem hlt)
 obtain⟨p,hp⟩:∃p,p=(flD d)[i]:=⟨_,rfl⟩
 rw[<-hp]at hg hXi hb1 hb2
 obtain⟨nm,f⟩:=p
 simp only at hb1 hb2
 have hfo:=zdS hd hb2
 unfold FOK at hfo
 have hfz:f.data.length<=1000000000000:=by
  cases b
  ·have:d.m=some f:=hb2
   have h:=hz.1;rw[this]at h;exact h
  ·have:d.n=some f:=hb2
   have h:=hz.2;rw[this]at h;exact h
 obtain⟨⟨xl,xk⟩,hx⟩:∃x,x=X i:=⟨_,rfl⟩
 rw[<-hx]at hXi hxl hxk hxr |-
 simp only at hxl hxk hxr
 have hmp:∀g:FV,zE (nm,g)=.agg [.s nm,.s g.data,.i .i64 g.sure]:=fun _=>rfl
  -- what is put behind
 have hnew:∀(f2:FV) (xk2:Nat),X (i+1)=(xl++[(nm,f2)],xk2)->∀b cap (jk:List AV),JK (((xl++[(nm,f2)]).map zE)++jk)->i+1+jk.length=cap->zkp 110 ((X (i+1)).1.map zE) (.msl b 110 0 (i+1) cap) [(b,.var (.arr cap 110) (.agg ((xl++[(nm,f2)]).map zE++jk)))]:=fun f2 xk2 he b cap jk hj hc=>by
  rw[he]
  exact .inr ⟨b,cap,jk,hj,by simpa[hxl]using hc,by simp[hxl],rfl⟩
 by_cases hs:f.data.length<=f.sure
 ·have hs':¬(f.sure:Int)<f.data.length:=by omega
  have hlF:∀q,YD q f=⟨f.data,f.data.length⟩:=fun q=>by unfold YD;rw[if_pos hs]
  have hXe:X (i+1)=(xl++[(nm,⟨f.data,f.data.length⟩)],xk):=by rw[hXi];simp only[crZ,hlF];rw[if_pos hs]
  simp (disch:=omega) [zz,hlt',hg,hmp,hs']
  rcases hxr with⟨h30,rfl,rfl⟩|⟨b2,cap,jk,hjk,hcap,rfl,rfl⟩
  ·have hxn:xl=[]:=by simpa using h30
   subst hxn
   have hi0:i=0:=by simpa using hxl.symm
   subst hi0
   try (simp (disch:=omega) [zz])
   (repeat with_reducible refine om ?_)
   intro b2 cap hcap
   have hJ:JK (([(nm,⟨f.data,f.data.length⟩)]:List kJ).map zE++List.replicate (cap-1) zRF):=(p0 _).app (PH _)
   have hN2:=hnew ⟨f.data,f.data.length⟩ xk hXe b2 cap _ hJ (by simp;omega)
   refine hN _ (1,.msl b2 110 0 1 cap,_) ?_ ⟨by simp only;omega,hN2⟩ (by simp only;omega)
   apply Le.of<;>simp[le9,hXe,hmp,zRF]<;>try omega
  ·have hjl:(xl.map zE++jk).length=cap:=by simpa using hcap
   have hxl2:(xl.map zE).length=i:=by simpa using hxl
   have hJk:JK jk:=by
    have:=hjk.drop i
    rw[List.drop_append,List.drop_of_length_le (by omega),hxl2]at this
    simpa using this
   rw[hxl2]at hcap
   try (simp (disch:=omega) [zz,hjl,hxl2,hxl])
   (repeat with_reducible refine om ?_)
   refine⟨fun hc=>?_,fun hc b3 cap3 q1 hc3=>?_⟩
   ·have hJ:JK ((xl++[(nm,(⟨f.data,f.data.length⟩:FV))]).map zE++jk.drop 1):=(p0 _).app (hJk.drop 1)
    have hN2:=hnew ⟨f.data,f.data.length⟩ xk hXe b2 cap _ hJ (by rw[List.length_drop];omega)
    refine hN _ (i+1,.msl b2 110 0 (i+1) cap,_) ?_ ⟨by simp only;omega,hN2⟩ (by simp only;omega)
    refine Le.ofP ?_ ?_ ?_ ?_ (HSub.of_perm (by dsimp only;rw[zdx hxl2];simp[hmp]))<;>simp[k8,z1,hXe,hmp]
   ·have hJ:JK ((xl++[(nm,(⟨f.data,f.data.length⟩:FV))]).map zE++List.replicate (cap3-(i+1)) zRF):=(p0 _).app (PH _)
    have hN2:=hnew ⟨f.data,f.data.length⟩ xk hXe b3 cap3 _ hJ (by simp;omega)
    refine hN _ (i+1,.msl b3 110 0 (i+1) cap3,_) ?_ ⟨by simp only;omega,hN2⟩ (by simp only;omega)
    refine Le.ofP ?_ ?_ ?_ ?_ (HSub.of_sub (by dsimp only;simp[hmp,zRF]))<;>simp[k8,z1,hXe,hmp]
 have hs':(f.sure:Int)<f.data.length:=by omega
 obtain⟨u,hu⟩:∃u,u=f.data.length-f.sure:=⟨_,rfl⟩
 have hlu:(f.data.length:Int)-f.sure=u:=by omega
 have hu1:¬(u:Int)+1=0:=by omega
 obtain⟨pk,hpk⟩:∃pk,pk=(ps.drop xk).headD 0:=⟨_,rfl⟩
 obtain⟨hp1,hnu,hp2,hp3⟩:=zen pk u
 obtain⟨n,hn⟩:∃n,n=X5 pk u:=⟨_,rfl⟩
 rw[<-hn]at hp1 hnu
 rw[Int.add_assoc]at hp1
 have hlF:YD pk f=⟨f.data.take (f.sure+n),f.sure+n⟩:=by unfold YD;rw[if_neg hs,hn,hu]
 have hXe:X (i+1)=(xl++[(nm,⟨f.data.take (f.sure+n),f.sure+n⟩)],xk+1):=by rw[hXi];simp only[crZ,<-hpk,hlF];rw[if_neg hs]
 have hts:((f.sure:Int)+n).toNat=f.sure+n:=by omega
 have hmin:min (f.sure+n) f.data.length=f.sure+n:=by omega
 have hmin2:min ((f.sure:Int)+n) f.data.length=(f.sure:Int)+n:=by omega
 by_cases hk:xk<ps.length
 ·have hk':(xk:Int)<ps.length:=by omega
  have hgk:=zof ps xk hk
  have hpe:ps[xk]=pk:=by rw[hpk,List.drop_eq_getElem_cons hk];rfl
  rw[hpe]at hgk
  simp (disch:=omega) [zz,hlt',hg,hmp,hs',hk',hk,hgk,hpe,hlu,hu1,hp1,hts,hmin,hmin2]
  (repeat with_reducible refine om ?_)
  rcases hxr with⟨h30,rfl,rfl⟩|⟨b2,cap,jk,hjk,hcap,rfl,rfl⟩
  ·have hxn:xl=[]:=by simpa using h30
   subst hxn
   have hi0:i=0:=by simpa using hxl.symm
   subst hi0
   try (simp (disch:=omega) [zz])
   (repeat with_reducible refine om ?_)
   intro b2 cap hcap
   have hJ:JK (([(nm,⟨f.data.take (f.sure+n),f.sure+n⟩)]:List kJ).map zE++List.replicate (cap-1) zRF):=(p0 _).app (PH _)
   have hN2:=hnew ⟨f.data.take (f.sure+n),f.sure+n⟩ (xk+1) hXe b2 cap _ hJ (by simp;omega)
   refine hN _ (1,.msl b2 110 0 1 cap,_) ?_ ⟨by simp only;omega,hN2⟩ (by simp only;omega)
   apply Le.of<;>simp[le9,hXe,hmp,zRF,hmin,hmin2]<;>try omega
  ·have hjl:(xl.map zE++jk).length=cap:=by simpa using hcap
   have hxl2:(xl.map zE).length=i:=by simpa using hxl
   have hJk:JK jk:=by
    have:=hjk.drop i
    rw[List.drop_append,List.drop_of_length_le (by omega),hxl2]at this
    simpa using this
   rw[hxl2]at hcap
   try (simp (disch:=omega) [zz,hjl,hxl2,hxl])
   (repeat with_reducible refine om ?_)
   refine⟨fun hc=>?_,fun hc b3 cap3 q1 hc3=>?_⟩
   ·have hJ:JK ((xl++[(nm,(⟨f.data.take (f.sure+n),f.sure+n⟩:FV))]).map zE++jk.drop 1):=(p0 _).app (hJk.drop 1)
    have hN2:=hnew ⟨f.data.take (f.sure+n),f.sure+n⟩ (xk+1) hXe b2 cap _ hJ (by rw[List.length_drop];omega)
    refine hN _ (i+1,.msl b2 110 0 (i+1) cap,_) ?_ ⟨by simp only;omega,hN2⟩ (by simp only;omega)
    refine Le.ofP ?_ ?_ ?_ ?_ (HSub.of_perm (by dsimp only;rw[zdx hxl2];simp[hmp,hmin,hmin2]))<;>simp[k8,z1,hXe,hmp,hmin,hmin2]
   ·have hJ:JK ((xl++[(nm,(⟨f.data.take (f.sure+n),f.sure+n⟩:FV))]).map zE++List.replicate (cap3-(i+1)) zRF):=(p0 _).app (PH _)
    have hN2:=hnew ⟨f.data.take (f.sure+n),f.sure+n⟩ (xk+1) hXe b3 cap3 _ hJ (by simp;omega)
    refine hN _ (i+1,.msl b3 110 0 (i+1) cap3,_) ?_ ⟨by simp only;omega,hN2⟩ (by simp only;omega)
    refine Le.ofP ?_ ?_ ?_ ?_ (HSub.of_sub (by dsimp only;simp[hmp,zRF,hmin,hmin2]))<;>simp[k8,z1,hXe,hmp,hmin,hmin2]
 ·have hk':¬(xk:Int)<ps.length:=by omega
  have hpe:pk=0:=by rw[hpk,List.drop_of_length_le (by omega)];rfl
  rw[hpe]at hp1 hp2 hp3
  have hz0:(0:Int).tmod ((u:Int)+1)=0:=Int.zero_tmod _
  rw[hz0,Int.zero_add]at hp1
  have hself:((u:Int)+1).tmod ((u:Int)+1)=0:=Int.tmod_self
  have hn0:n=0:=by omega
  subst hn0
  simp only[Nat.add_zero]at hXe hmin
  have hmin3:min f.sure f.data.length=f.sure:=by omega
  simp (disch:=omega) [zz,hlt',hg,hmp,hs',hk',hlu,hu1,hz0,hself,hmin]
  (repeat with_reducible refine om ?_)
  rcases hxr with⟨h30,rfl,rfl⟩|⟨b2,cap,jk,hjk,hcap,rfl,rfl⟩
  ·have hxn:xl=[]:=by simpa using h30
   subst hxn
   have hi0:i=0:=by simpa using hxl.symm
   subst hi0
   try (simp (disch:=omega) [zz])
   (repeat with_reducible refine om ?_)
   intro b2 cap hcap
   have hJ:JK (([(nm,⟨f.data.take f.sure,f.sure⟩)]:List kJ).map zE++List.replicate (cap-1) zRF):=(p0 _).app (PH _)
   have hN2:=hnew ⟨f.data.take f.sure,f.sure⟩ (xk+1) hXe b2 cap _ hJ (by simp;omega)
   refine hN _ (1,.msl b2 110 0 1 cap,_) ?_ ⟨by simp only;omega,hN2⟩ (by simp only;omega)
   apply Le.of<;>simp[le9,hXe,hmp,zRF,hmin,hmin3]<;>try omega
  ·have hjl:(xl.map zE++jk).length=cap:=by simpa using hcap
   have hxl2:(xl.map zE).length=i:=by simpa using hxl
   have hJk:JK jk:=by
    have:=hjk.drop i
    rw[List.drop_append,List.drop_of_length_le (by omega),hxl2]at this
    simpa using this
   rw[hxl2]at hcap
   try (simp (disch:=omega) [zz,hjl,hxl2,hxl])
   (repeat with_reducible refine om ?_)
   refine⟨fun hc=>?_,fun hc b3 cap3 q1 hc3=>?_⟩
   ·have hJ:JK ((xl++[(nm,(⟨f.data.take f.sure,f.sure⟩:FV))]).map zE++jk.drop 1):=(p0 _).app (hJk.drop 1)
    have hN2:=hnew ⟨f.data.take f.sure,f.sure⟩ (xk+1) hXe b2 cap _ hJ (by rw[List.length_drop];omega)
    refine hN _ (i+1,.msl b2 110 0 (i+1) cap,_) ?_ ⟨by simp only;omega,hN2⟩ (by simp only;omega)
    refine Le.ofP ?_ ?_ ?_ ?_ (HSub.of_perm (by dsimp only;rw[zdx hxl2];simp[hmp,hmin,hmin3]))<;>simp[k8,z1,hXe,hmp,hmin,hmin3]
   ·have hJ:JK ((xl++[(nm,(⟨f.data.take f.sure,f.sure⟩:FV))]).map zE++List.replicate (cap3-(i+1)) zRF):=(p0 _).app (PH _)
    have hN2:=hnew ⟨f.data.take f.sure,f.sure⟩ (xk+1) hXe b3 cap3 _ hJ (by simp;omega)
    refine hN _ (i+1,.msl b3 110 0 (i+1) cap3,_) ?_ ⟨by simp only;omega,hN2⟩ (by simp only;omega)
    refine Le.ofP ?_ ?_ ?_ ?_ (HSub.of_sub (by dsimp only;simp[hmp,zRF,hmin,hmin3]))<;>simp[k8,z1,hXe,hmp,hmin,hmin3]
theorem dW (d:DV) (hd:DOK d) (hz:szF d.m<=1000000000000/\szF d.n<=1000000000000) (ps:List Int) (hps:ps.length<=1000000000) :
  PC Tryz.prog 22 [.av RdT (rdE d),.av (.slice 3) (JX ps)] (.av RdT (rdE (kP ps d))):=by
 have hE:rdE (kP ps d)=.agg [.sl .no ((flD (kP ps d)).map zE),.i .i64 (-1)]:=rfl
 rw[hE]
 obtain⟨L,hL⟩:∃L,L=(flD (kP ps d)).map zE:=⟨_,rfl⟩
 have h0:=zdl d hd hz ps hps
 rw[<-hL]at h0 |-
 have g1:=q6.sub (R':=fun r H'=>∃x Rw,zkp 110 L x Rw/\r=.av RdT (.agg [x,.i .i64 (-1)])/\H'=Rw) h0 (by
  rintro r H' ⟨x,Rw,h1,h2,h3⟩ _
  exact⟨_,h3,x,Rw,h1,h2,rfl⟩)
 have g2:=q6.nilF (R':=fun r H'=>(r=.av RdT (.agg [.sl .no L,.i .i64 (-1)])/\H'=[])\/∃b cap j,L.length+j.length=cap/\r=.av RdT (.agg [.msl b 110 0 L.length cap,.i .i64 (-1)])/\H'=[(b,.var (.arr cap 110) (.agg (L++j)))]) g1 (by
  rintro r H' ⟨x,Rw,⟨h1,rfl,rfl⟩|⟨b,cap,j,hj,hc,rfl,rfl⟩,rfl,rfl⟩
  ·exact .inr ⟨_,_,rfl,.inl ⟨by rw[h1],rfl⟩⟩
  ·exact .inl (.inr ⟨b,cap,j,hc,rfl,rfl⟩))
 refine g2.freeze laid ?_
 rintro r H' (⟨rfl,rfl⟩|⟨b,cap,j,hc,rfl,rfl⟩) _
 ·exact .inr ⟨rfl,rfl⟩
 ·refine .inl ⟨b,cap,110,L++j,[],List.Perm.refl _,?_,rfl⟩
  have htk:(L++j).take L.length=L:=by rw[List.take_append_of_le_length (by omega)];exact List.take_of_length_le (by omega)
  have hle:L.length<=cap:=by omega
  simp[V2,fzA,xP,hle,htk]
end Go.Proofs.YtognnffjdckalaaGreatDoor
