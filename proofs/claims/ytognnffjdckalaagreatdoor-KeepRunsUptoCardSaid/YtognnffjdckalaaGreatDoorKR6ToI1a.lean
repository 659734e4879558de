/- The document's answer for a record: the program. No condition. -/
import Derived.Test.YtognnffjdckalaaGreatDoorKW0ToKX0
set_option linter.unusedSimpArgs false
set_option linter.unusedVariables false
set_option linter.unusedSectionVars false
set_option maxHeartbeats 64000000
set_option maxRecDepth 100000
namespace Go.Proofs.YtognnffjdckalaaGreatDoor
open Go Go.Ab
open Classical
section
variable [Sel] [SelPow] [SelErr]
noncomputable abbrev RkT:TyD:=q8 Tryz.prog 39
noncomputable def rkM (x:MV):AV:=qU (w9 x.L)
def rkB (x:MV):AV:=kN (sB x.bl (kyB x.bl))
noncomputable def rkE (k:KV):AV:=.agg [rjE k.j,.i .i64 k.mo,rkM k.M,rkB k.M]
theorem CW (x:MV):(rkM x).er=rkM x:=QX _
theorem zh2 (x:MV):(rkB x).er=rkB x:=ZT _
theorem zb1 (k:KV):(rkE k).er=rkE k:=by simp[rkE,AV.er,AV.ers,XY,CW,zh2]
theorem zgF (x:List UInt8) (hx:x.length<=1000000000):PC Tryz.prog 50 [.av .str (.s blobW),.av .str (.s x)] (.av .str (.s (wX x))):=by
 have h:=vP (l:=[blobW,x]) (n:=1000000004) (by
  intro y hy
  simp only[List.mem_cons,List.not_mem_nil,or_false]at hy
  rcases hy with rfl|rfl
  ·simp[blobW]
  ·omega)
 simp only[List.length_cons,List.length_nil]at h
 have hr:=zdV [blobW,x] (by simp) (by omega)
 refine zow Tryz.func50 cf0 fun imm0 w0=>?_
 simp (disch:=omega) [zz]
 refine YE hr rfl rfl (by simp) (by simp[q9,coC,TV.er,AV.er,AV.ers,Tok.k,qG]) ?_
 simp (disch:=omega) [zz,Tryz.f50,wX]
theorem zeQ (t:qD) (hd:TrD t):PC Tryz.prog 50 [.av .str (.s traceW),.av .str (.s (WI t))] (.av .str (.s (yS t))):=by
 have hb:=zfI hd
 have h:=vP (l:=[traceW,WI t]) (n:=6300000) (by
  intro y hy
  simp only[List.mem_cons,List.not_mem_nil,or_false]at hy
  rcases hy with rfl|rfl
  ·simp[traceW]
  ·omega)
 simp only[List.length_cons,List.length_nil]at h
 have hr:=zdV [traceW,WI t] (by simp) (by omega)
 refine zow Tryz.func50 cf0 fun imm0 w0=>?_
 simp (disch:=omega) [zz]
 refine YE hr rfl rfl (by simp) (by simp[q9,coC,TV.er,AV.er,AV.ers,Tok.k,qG]) ?_
 simp (disch:=omega) [zz,Tryz.f50,yS]
theorem zel {n N:Nat} {x:MV} (h:wW n N x):∀t∈w9 x.L,TrG t/\t.key.length=32:=fun t ht=>by
 obtain⟨k,_,hk⟩:=List.mem_flatMap.1 ht
 obtain⟨h1,h2⟩:=C9 h hk
 exact⟨h1,h1.1.1⟩
theorem C6 {bl:BlL}:(sB bl (kyB bl)).length=bl.length:=by
 unfold sB kyB
 rw[List.length_map,(y9 _).1.length_eq,List.length_map]
theorem gY {n N:Nat} {x:MV} (h:wW n N x) (hn:n<=8) (hN:N<=12000000):(w9 x.L).length<=8000000:=by
 have h1:=GV h
 have h2:∀l:List Dig,(l.map fun q=>(getD x.L q).length).sum<=8*l.length:=by
  intro l
  induction l with
  | nil=>simp
  | cons q l ih =>
   have:=h.row q
   simp only[List.map_cons,List.sum_cons,List.length_cons]
   omega
 have h3:=h2 (yB (x.L.map Prod.fst))
 rw[(y9 _).1.length_eq,List.length_map]at h3
 unfold w9
 rw[List.length_flatMap]
 omega
abbrev zsP:Cfg:=⟨fun _=>false,fun n=>n==50⟩
theorem zh9 (k:KV) (N:Nat) (hI:wW k.mo N k.M) (hN:N<=12000000) (hm:1<=k.mo) (hm8:k.mo<=8) (r:List UInt8) (hr:r.length<=1000000000) :
  PC Tryz.prog 31 [.av RkT (rkE k),.av .str (.s r)] (.tup [(RkT,rkE ⟨k.j,k.mo,(zQ k.mo r k.M).1⟩),(.int .i64,.i .i64 (zQ k.mo r k.M).2)]):=by
 have hbl:=UC hI
 have hrl:=gY hI hm8 hN
 have htx:=zdf r hr
 have htl:=vE r
 have e0:=XY k.j
 have e1:=CW k.M
 have e2:=zh2 k.M
 have hend:∀x e,zQ k.mo r k.M=(x,e)->(zQ k.mo r k.M).1=x/\(zQ k.mo r k.M).2=e:=fun x e h=>by rw[h];exact⟨rfl,rfl⟩
 refine zow Tryz.func31 zsP fun imm0 w0=>?_
 simp (disch:=omega) [zz,rkE]
 refine zcv htx ?_
 by_cases he:(kO r).2=0
 rotate_left
 ·have hlv:zQ k.mo r k.M=(k.M,3):=by unfold zQ;rw[if_pos he]
  simp (disch:=omega) [zz,zW,he,hlv,Tryz.f31,rkE,e0,e1,e2]
 rcases hl:(kO r).1 with _|⟨w,_|⟨s,_|⟨s2,l⟩⟩⟩
 ·have hlv:zQ k.mo r k.M=(k.M,3):=by unfold zQ;rw[if_neg (by simpa using he),hl]
  simp (disch:=omega) [zz,zW,he,hl,hlv,qG,Tryz.f31,rkE,e0,e1,e2]
 ·have hlv:zQ k.mo r k.M=(k.M,3):=by unfold zQ;rw[if_neg (by simpa using he),hl]
  simp (disch:=omega) [zz,zW,he,hl,hlv,qG,Tryz.f31,rkE,e0,e1,e2]
 ·have hsl:s.length<=1000000000:=by have:=htl.1 s (by rw[hl];simp);omega
  by_cases hwb:w=blobW
  ·subst hwb
   have hlv:zQ k.mo r k.M=(⟨k.M.L,kY (sha s) s k.M.bl⟩,0):=by unfold zQ;rw[if_neg (by simpa using he),hl];rfl
   have hsum:=pJ s (by omega)
   have hpt:=pT (sB k.M.bl (kyB k.M.bl)) (sha s,s) (by rw[C6];omega) (QE _) (fun p hp=>by
    obtain⟨q,hq,he⟩:=List.mem_map.1 (gD.1 hp).1
    rw[<-he,hI.sh q hq];exact QE _)
   rw[zod]at hpt
   have hrb:kN (sB k.M.bl (kyB k.M.bl))=rkB k.M:=rfl
   have hrb2:kN (sB (kY (sha s) s k.M.bl) (kyB (kY (sha s) s k.M.bl)))=rkB ⟨k.M.L,kY (sha s) s k.M.bl⟩:=rfl
   rw[hrb,hrb2]at hpt
   have e3:=zh2 ⟨k.M.L,kY (sha s) s k.M.bl⟩
   have hMe:rkM ⟨k.M.L,kY (sha s) s k.M.bl⟩=rkM k.M:=rfl
   simp (disch:=omega) [zz,zW,he,hl,qG,blobW]
   (repeat with_reducible refine om ?_)
   refine XF hsum rfl rfl (by simp) (by simp[q9,TV.er,AV.er]) ?_
   simp (disch:=omega) [zz]
   (repeat with_reducible refine om ?_)
   refine XF hpt rfl rfl (by simp) (by simp[q9,TV.er,AV.er,AV.ers,e2,yC]) ?_
   simp (disch:=omega) [zz]
   (repeat with_reducible refine om ?_)
   simp (disch:=omega) [zz,hlv,Tryz.f31,rkE,e0,e1,e3,hMe]
  ·by_cases hwt:w=traceW
   ·subst hwt
    have hrd:=zld s hsl
    have hlv:zQ k.mo r k.M=(if (jJ s).2=0 then(⟨kU k.mo k.M.L (jJ s).1,k.M.bl⟩,0) else(k.M,(jJ s).2)):=by unfold zQ;rw[if_neg (by simpa using he),hl];simp only[if_neg hwb,if_true]
    have hch:(jJ s).2=0->TrP (jJ s).1/\qY (jJ s).1=0/\TrD (jJ s).1:=fun h=>by
     obtain⟨h0,h2,_,_⟩:=zfA hsl h
     exact⟨h0.1,(gF (b:=s) (t:=(jJ s).1) (by rw[<-h])).2.1,h2⟩
    rcases hq:jJ s with⟨t,e⟩
    rw[hq]at hrd hlv hch
    simp only at hlv hch
    simp (disch:=omega) [zz,zW,he,hl,qG,traceW]
    refine zcv hrd ?_
    by_cases he2:e=0
    ·subst he2
     rw[if_pos rfl]at hlv
     obtain⟨htp,hc0,htd⟩:=hch rfl
     have hra:=zjs (w9 k.M.L) t k.mo hm hm8 (by omega) htd.1 (fun x hx=>(zel hI x hx).2) (zlr htp hc0).ok (fun x hx=>(zel hI x hx).1.W.ok)
     rw[zdj hI.ok hc0]at hra
     have e4:=QX (w9 (kU k.mo k.M.L t))
     have hrm:rkM ⟨kU k.mo k.M.L t,k.M.bl⟩=qU (w9 (kU k.mo k.M.L t)):=rfl
     have htE:=QP t
     have hBe:rkB ⟨kU k.mo k.M.L t,k.M.bl⟩=rkB k.M:=rfl
     simp (disch:=omega) [zz,yX]
     refine YE hra rfl rfl (by simp) (by simp[q9,TV.er,AV.er,e1,htE,rkM]) ?_
     simp (disch:=omega) [zz,hlv,Tryz.f31,rkE,e0,hrm,e4,e2,hBe]
    ·rw[if_neg he2]at hlv
     simp (disch:=omega) [zz,yX,he2,hlv,Tryz.f31,rkE,e0,e1,e2]
   ·have hlv:zQ k.mo r k.M=(k.M,3):=by unfold zQ;rw[if_neg (by simpa using he),hl];simp[hwb,hwt]
    have hwb':¬[98,108,111,98]=w:=fun e=>hwb (by rw[<-e];rfl)
    have hwt':¬[116,114,97,99,101]=w:=fun e=>hwt (by rw[<-e];rfl)
    have hwb2:¬w=[98,108,111,98]:=hwb
    have hwt2:¬w=[116,114,97,99,101]:=hwt
    simp (disch:=omega) [zz,zW,he,hl,hlv,qG,hwb',hwt',hwb2,hwt2,Tryz.f31,rkE,e0,e1,e2]
 ·have hlv:zQ k.mo r k.M=(k.M,3):=by unfold zQ;rw[if_neg (by simpa using he),hl]
  have hlen:(qG (kO r).1).length=l.length+3:=by rw[hl];simp[qG]
  have hne:¬((l.length:Int)+3=2):=by omega
  simp (disch:=omega) [zz,zW,he,hlen,hne,hlv,Tryz.f31,rkE,e0,e1,e2]
def zK:AV:=.agg [.agg [.agg [.sl .no [],.i .i64 0],.s [],.b false,.b false],.i .i64 0,.sl .no [],.sl .no []]
noncomputable def rkO:Option KV->AV
 | some k=>rkE k
 | none=>zK
theorem ztv:rkM ⟨[],[]⟩=.sl .no []:=by simp[rkM,w9,qU,yB]
theorem zt9:rkB ⟨[],[]⟩=.sl .no []:=by simp[rkB,sB,kyB,kN,yB]
theorem QR (d:DV) (mo:Int) (N:Nat) (hN:N<=12000000) (hd:kF N d) :
  PC Tryz.prog 8 [.av RdT (rdE d),.av (.int .i64) (.i .i64 mo)] (.tup [(RkT,rkO (kQ mo d).2.1),(RdT,rdE (kQ mo d).1),(.int .i64,.i .i64 (kQ mo d).2.2)]):=by
 have hz1:=hd.m
 have hz2:=hd.n
 obtain⟨hj1,hj2⟩:=hd.openJ
 have e0:=jX d
 by_cases hmo:mo<1\/8<mo
 ·have ho:kQ mo d=(d,none,2):=by unfold kQ;rw[if_pos hmo]
  rw[ho]
  refine zow Tryz.func8 cf0 fun imm0 w0=>?_
  by_cases h1:mo<1
  ·simp (disch:=omega) [zz,h1,Tryz.f8,rkO,zK,e0]
   (repeat' (refine And.intro ?_ ?_))<;>(show rdJ _ _ _ _ _=true;kernel_rfl)
  ·have h8:8<mo:=by omega
   simp (disch:=omega) [zz,h1,h8,Tryz.f8,rkO,zK,e0]
   (repeat' (refine And.intro ?_ ?_))<;>(show rdJ _ _ _ _ _=true;kernel_rfl)
 obtain⟨m,hm⟩:∃m:Nat,m=mo.toNat:=⟨_,rfl⟩
 have hmm:mo=(m:Int):=by omega
 have ho:kQ mo d=if (openJ d).2.1≠0 then((openJ d).1,none,(openJ d).2.1) else if (zH m (openJ d).2.2 ⟨[],[]⟩).2≠0 then((openJ d).1,none,(zH m (openJ d).2.2 ⟨[],[]⟩).2) else((openJ d).1,some ⟨⟨(openJ d).1,false⟩,m,(zH m (openJ d).2.2 ⟨[],[]⟩).1⟩,0):=by unfold kQ;rw[if_neg hmo,<-hm]
 obtain⟨X,hX⟩:∃X,X=kQ mo d:=⟨_,rfl⟩
 rw[<-hX]at ho |-
 subst hmm
 have hm1:1<=m:=by omega
 have hm8:m<=8:=by omega
 have hm1':¬(m:Int)<1:=by omega
 have hm8':¬(8:Int)<m:=by omega
 have hjo:=zh6 d hd.ok (by omega) (by omega)
 have eJ:=zrs (openJ d)
 obtain⟨⟨d',e,l⟩,hj⟩:∃x,openJ d=x:=⟨_,rfl⟩
 rw[hj]at hj1 hj2 ho hjo eJ
 simp only at hj1 hj2 ho hjo
 have e1:=jX d'
 refine zow Tryz.func8 cf0 fun imm0 w0=>?_
 simp (disch:=omega) [zz,hm1',hm8']
 refine YE hjo rfl rfl (by simp) (by simp[q9,TV.er,AV.er,e0,nmK]) ?_
 by_cases he:e=0
 rotate_left
 ·rw[if_pos he]at ho
  have hjE:rjO (d',e,l)=.agg [rdE d',.s [],.b false,.b false]:=by unfold rjO;rw[if_neg he]
  rw[ho]
  simp (disch:=omega) [zz,he,hjE,Tryz.f8,rkO,zK,e1]
  (repeat' (refine And.intro ?_ ?_))<;>(show rdJ _ _ _ _ _=true;kernel_rfl)
 subst he
 rw[if_neg (by simp)]at ho
 have hjE:rjO (d',0,l)=.agg [rdE d',.s nmK,.b true,.b false]:=by unfold rjO;rw[if_pos rfl];rfl
 obtain⟨L,hL⟩:∃L:Nat->MV × Int,L=fun i=>zH m (l.take i) ⟨[],[]⟩:=⟨_,rfl⟩
 have hL0:L 0=(⟨[],[]⟩,0):=by rw[hL];rfl
 have hLn:L l.length=zH m l ⟨[],[]⟩:=by rw[hL];simp
 rw[<-hLn]at ho
 have hll:=V0 l
 simp (disch:=omega) [zz,hjE]
 refine AT.loop' (α:=Nat) (fun i=>St.of [(4,.loc 4 []),(5,.loc 5 []),(7,.loc 7 []),(10,.loc 10 []),(36,.av (.slice 9) (.sl .no (qG l))),(37,.av (.int .i64) (.i .i64 l.length)),(38,.av (.int .i64) (.i .i64 i))] [(4,(RkT,.agg [.agg [.agg [.sl .full [],.i .i64 0],.s [],.b false,.b false],.i .i64 0,.sl .full [],.sl .full []])),(5,(RdT,.agg [.sl .full [],.i .i64 0])),(7,(RjT,.agg [rdE d',.s nmK,.b true,.b false])),(10,(RkT,rkE ⟨⟨d',false⟩,m,(L i).1⟩))] (fun _=>0) [])
  (fun i=>i<=l.length/\(L i).2=0) (fun i=>l.length-i) 0 ?_ ?_ ?_
 ·apply Le.of<;>simp[le9,hL0,rkE,ztv,zt9,rjE]<;>try omega
  simp[JQ,leA,WU,WR]
 ·exact⟨by simp,by rw[hL0]⟩
 rintro i ⟨hi,hl0⟩ KL hN2 hE
 refine zrd cf0 ?_
 by_cases hlt:i<l.length
 ·have hlt':(i:Int)<l.length:=by omega
  have hgn:=KC l i hlt
  have hlen:=zde l i hlt
  have hinv:=wW.loads (mo:=m) hm1 wW.nil (l:=l.take i) (y:=(L i).1) (by rw[<-hl0,hL])
  replace hinv:=hinv.up (show 0+wtR (l.take i)<=N by omega)
  have hst:=za6 (mo:=m) l ⟨[],[]⟩ i hlt (by rw[hL]at hl0;exact hl0)
  have hLi:∀i,zH m (l.take i) ⟨[],[]⟩=L i:=fun i=>by rw[hL]
  rw[hLi,hLi,<-hLn]at hst
  obtain⟨x,hx⟩:∃x,x=l[i]:=⟨_,rfl⟩
  rw[<-hx]at hgn hlen hst
  have hrc:=zh9 ⟨⟨d',false⟩,m,(L i).1⟩ N hinv hN hm1 hm8 x (by omega)
  simp only at hrc
  have eK:=zb1 ⟨⟨d',false⟩,m,(L i).1⟩
  have hslen:(qG l).length=l.length:=wP l
  have hgg:(qG l)[i]'(by rw[hslen];exact hlt)=.s x:=by
   rw[List.getElem?_eq_getElem (by rw[hslen];exact hlt)]at hgn
   exact Option.some.inj hgn
  simp (disch:=omega) [zz,hlt',hgg,hslen,hlt]
  refine YE hrc rfl rfl (by simp) (by simp[q9,TV.er,AV.er,eK]) ?_
  by_cases hz:(zQ m x (L i).1).2=0
  ·have hst1:=hst.1 hz
   rw[<-hst1]at hz |-
   simp (disch:=omega) [zz,hz]
   refine hN2 _ (i+1) ?_ ⟨by omega,hz⟩ (by omega)
   apply Le.of<;>simp[le9]<;>try omega
  ·have hst2:=hst.2 hz
   rw[if_pos (by rw[hst2];exact hz),hst2]at ho
   simp (disch:=omega) [zz,hz]
   (repeat with_reducible refine om ?_)
   refine hE _ _ (by simp) ?_
   rw[ho]
   simp (disch:=omega) [zz,Tryz.f8,rkO,zK,e1]
 ·have hie:i=l.length:=by omega
  subst hie
  have hlt':¬(l.length:Int)<l.length:=by omega
  rw[if_neg (by rw[hl0];simp)]at ho
  have eK:=zb1 ⟨⟨d',false⟩,m,(L l.length).1⟩
  simp (disch:=omega) [zz,hlt']
  refine hE _ _ (by simp) ?_
  rw[ho]
  simp (disch:=omega) [zz,Tryz.f8,rkO,e1,eK]
  (repeat' (refine And.intro ?_ ?_))<;>(show rdJ _ _ _ _ _=true;kernel_rfl)
theorem zoe {l:List Made} {o:List zV} {i:Nat} (h1:i<l.length) (h2:i<o.length) (h:l[i]≠Q0 o[i]):¬l=o.map Q0:=fun e=>h (by
 have:l[i]=(o.map Q0)[i]'(by simpa using h2):=by simp only[e]
 rw[this,List.getElem_map])
def zKf:AV:=.agg [.agg [.agg [.sl .full [],.i .i64 0],.s [],.b false,.b false],.i .i64 0,.sl .full [],.sl .full []]
abbrev zrp:Cfg:=⟨fun _=>false,fun _=>false⟩
theorem zhG (k:KV) (N:Nat) (hI:ZA N k) (t:qD) (ht:TrW t) (hd:TrD t) (outs:List zV) (hol:outs.length<=1000000) (hod:∀f∈outs,f.data.length<=1000000000) (hN:N+(wtO outs+wtT t)<=12000000) :
  PC Tryz.prog 14 [.av RkT (rkE k),.av TrT (q5 t),.av (.slice 73) (zI outs)] (.tup [(RkT,rkE (w6 t outs k).1),(.int .i64,.i .i64 (w6 t outs k).2)]):=by
 have hrl:=gY hI.mem hI.hi (by omega)
 have hck:=vT t ht.1 ht.2.1 ht.2.2
 have hfe:(zI outs).er=zI outs:=by simp[zI,AV.er,AV.ers_eq,XS,Tok.k]
 have hte:(q5 t).er=q5 t:=QP t
 have eK:=zb1 k
 have hef:zI outs=.sl .no (outs.map zC):=rfl
 have hmt:qF t.outs=.sl .no (t.outs.map qS):=rfl
 have htE:q5 t=.agg [qK t.key,qE t.reads,qF t.outs]:=rfl
 refine zow Tryz.func14 zrp fun imm0 w0=>?_
 simp (disch:=omega) [zz]
 refine YE hck rfl rfl (by simp) (by simp[q9,TV.er,hte]) ?_
 by_cases hc:qY t=0
 rotate_left
 ·have hkk:w6 t outs k=(k,qY t):=by unfold w6;rw[if_pos hc]
  rw[hkk]
  simp (disch:=omega) [zz,hc,Tryz.f14,eK]
 by_cases hlen:outs.length=t.outs.length
 rotate_left
 ·have hne:¬t.outs=outs.map Q0:=fun e=>hlen (by rw[e];simp)
  have hkk:w6 t outs k=(k,1):=by unfold w6;rw[if_neg (by simpa using hc),if_pos hne]
  have hlen':¬(outs.length:Int)=t.outs.length:=by omega
  rw[hkk]
  simp (disch:=omega) [zz,hc,htE,hef,hmt,hlen',Tryz.f14,eK]
 have hlen':(outs.length:Int)=t.outs.length:=by omega
 obtain⟨X,hX⟩:∃X,X=w6 t outs k:=⟨_,rfl⟩
 rw[<-hX]
 simp (disch:=omega) [zz,hc,htE,hef,hmt,hlen']
 refine AT.loop' (α:=Nat) (fun i=>St.of [(2,.av (.slice 73) (.sl .no (outs.map zC))),(3,.loc 3 []),(4,.loc 4 []),(6,.loc 6 []),(33,.av (.slice 73) (.sl .no (outs.map zC))),(34,.av (.int .i64) (.i .i64 outs.length)),(35,.av (.int .i64) (.i .i64 i))] [(3,(RkT,rkE k)),(4,(TrT,q5 t)),(6,(RkT,zKf))] (fun _=>0) [])
  (fun i=>i<=outs.length/\∀j (h1:j<t.outs.length) (h2:j<outs.length),j<i->t.outs[j]=Q0 outs[j]) (fun i=>outs.length-i) 0 ?_ ?_ ?_
 ·apply Le.of<;>simp[le9,hef,htE,hmt,zKf,hlen]<;>try omega
 ·exact⟨by simp,fun j _ _ h=>absurd h (by omega)⟩
 rintro i ⟨hi,hall⟩ KL hN1 hE1
 refine zrd zrp ?_
 by_cases hlt:i<outs.length
 ·have hlt':(i:Int)<outs.length:=by omega
  have hlt2:i<t.outs.length:=by omega
  have hlt2':(i:Int)<t.outs.length:=by omega
  have hgf:=WP outs i hlt
  have hgm:=XJ t.outs i hlt2
  have hne:=zoe hlt2 hlt
  have hdl:=hod _ (List.getElem_mem hlt)
  obtain⟨f,hf⟩:∃f,f=outs[i]:=⟨_,rfl⟩
  obtain⟨m,hm⟩:∃m,m=t.outs[i]:=⟨_,rfl⟩
  rw[<-hf]at hgf hne hdl
  rw[<-hm]at hgm hne
  have hsum:=pJ f.data (by omega)
  have hfE:zC f=.agg [.s f.path,.s f.data]:=rfl
  have hmE:qS m=.agg [.s m.path,qK m.sum]:=rfl
  by_cases hp:f.path=m.path
  ·by_cases hs:sha f.data=m.sum
   ·have hms:m=Q0 f:=by cases m;simp only at hp hs;rw[<-hp,<-hs];rfl
    simp (disch:=omega) [zz,hlt',hgf,hgm,hfE,hmE,htE,hmt,hlt2,hp]
    (repeat with_reducible refine om ?_)
    refine XF hsum rfl rfl (by simp) (by simp[q9,TV.er,AV.er]) ?_
    simp (disch:=omega) [zz,hlt',hgm,hmE,hlt2,hs]
    (repeat with_reducible refine om ?_)
    refine hN1 _ (i+1) ?_ ⟨by omega,fun j h1 h2 h3=>?_⟩ (by omega)
    ·apply Le.of<;>simp[le9,htE,hmt]<;>try omega
    ·by_cases hj:j=i
     ·subst hj;rw[<-hm,<-hf];exact hms
     ·exact hall j h1 h2 (by omega)
   ·have hms:¬m=Q0 f:=fun e=>hs (by rw[e];rfl)
    have hkk:X=(k,1):=by rw[hX];unfold w6;rw[if_neg (by simpa using hc),if_pos (hne hms)]
    simp (disch:=omega) [zz,hlt',hgf,hgm,hfE,hmE,htE,hmt,hlt2,hp]
    (repeat with_reducible refine om ?_)
    refine XF hsum rfl rfl (by simp) (by simp[q9,TV.er,AV.er]) ?_
    simp (disch:=omega) [zz,hlt',hgm,hmE,hlt2,qK,j9,hs]
    (repeat with_reducible refine om ?_)
    refine hE1 _ _ (by simp) ?_
    simp (disch:=omega) [zz,hkk,Tryz.f14,eK]
  ·have hms:¬m=Q0 f:=fun e=>hp (by rw[e];rfl)
   have hkk:X=(k,1):=by rw[hX];unfold w6;rw[if_neg (by simpa using hc),if_pos (hne hms)]
   simp (disch:=omega) [zz,hlt',hgf,hgm,hfE,hmE,htE,hmt,hlt2,hp]
   (repeat with_reducible refine om ?_)
   refine hE1 _ _ (by simp) ?_
   simp (disch:=omega) [zz,hkk,Tryz.f14,eK]
 have hm:t.outs=outs.map Q0:=ziw hlen.symm fun j h1 h2=>hall j h1 h2 (by omega)
 have hlt':¬(i:Int)<outs.length:=by omega
 have hkk:X=if (qR outs k.j k.M.bl).2.2≠0 then(⟨(qR outs k.j k.M.bl).1,k.mo,⟨k.M.L,(qR outs k.j k.M.bl).2.1⟩⟩,(qR outs k.j k.M.bl).2.2) else
   if (addJ (yS t) (qR outs k.j k.M.bl).1).2≠0 then(⟨(addJ (yS t) (qR outs k.j k.M.bl).1).1,k.mo,⟨k.M.L,(qR outs k.j k.M.bl).2.1⟩⟩,(addJ (yS t) (qR outs k.j k.M.bl).1).2) else
   (⟨(addJ (yS t) (qR outs k.j k.M.bl).1).1,k.mo,⟨kU k.mo k.M.L t,(qR outs k.j k.M.bl).2.1⟩⟩,0):=by
  rw[hX];unfold w6;rw[if_neg (by simpa using hc),if_neg (by simpa using hm)]
 obtain⟨R,hR⟩:∃R,R=qR outs k.j k.M.bl:=⟨_,rfl⟩
 rw[<-hR]at hkk
 have hrkE:∀(j:JV) (bl:BlL),rkE ⟨j,k.mo,⟨k.M.L,bl⟩⟩=.agg [rjE j,.i .i64 k.mo,rkM k.M,kN (sB bl (kyB bl))]:=fun _ _=>rfl
 have hrk0:rkE k=.agg [rjE k.j,.i .i64 k.mo,rkM k.M,kN (sB k.M.bl (kyB k.M.bl))]:=rfl
 clear hN1 hall hX
 simp (disch:=omega) [zz,hlt']
 refine hE1 _ _ (by simp) ?_
 clear hE1
 simp (disch:=omega) [zz]
 refine AT.loop' (α:=Nat × JV × BlL) (fun x=>St.of [(2,.av (.slice 73) (.sl .no (outs.map zC))),(3,.loc 3 []),(4,.loc 4 []),(6,.loc 6 []),(63,.av (.slice 73) (.sl .no (outs.map zC))),(64,.av (.int .i64) (.i .i64 outs.length)),(65,.av (.int .i64) (.i .i64 x.1))] [(3,(RkT,rkE ⟨x.2.1,k.mo,⟨k.M.L,x.2.2⟩⟩)),(4,(TrT,q5 t)),(6,(RkT,zKf))] (fun _=>0) [])
  (fun x=>x.1<=outs.length/\qR (outs.drop x.1) x.2.1 x.2.2=R/\wW k.mo (N+wtO (outs.take x.1)) ⟨k.M.L,x.2.2⟩/\kF (N+wtO (outs.take x.1)) x.2.1.d) (fun x=>outs.length-x.1) (0,k.j,k.M.bl) ?_ ?_ ?_
 ·apply Le.of<;>simp[le9]<;>try omega
 ·exact⟨by simp,by simpa using hR.symm,by simpa[wtO]using hI.mem,by simpa[wtO]using hI.of⟩
 rintro⟨i,j,bl⟩ ⟨hi,hko,hM,hD⟩ KL hN' hE
 simp only at hi hko hM hD hN'
 refine zrd zrp ?_
 have hbll:=UC hM
 simp only at hbll
 have h32:∀p∈sB bl (kyB bl),p.1.length=32:=fun p hp=>by
  obtain⟨q,hq,he⟩:=List.mem_map.1 (gD.1 hp).1
  rw[<-he,hM.sh q hq];exact QE _
 have hwle:=zeb outs i
 by_cases hlt:i<outs.length
 ·have hlt':(i:Int)<outs.length:=by omega
  have hgf:=WP outs i hlt
  have hwt:=zgk outs i hlt
  have hwl:=zeb outs (i+1)
  have hdl:=hod _ (List.getElem_mem hlt)
  have hdr:outs.drop i=outs[i]::outs.drop (i+1):=List.drop_eq_getElem_cons hlt
  obtain⟨f,hf⟩:∃f,f=outs[i]:=⟨_,rfl⟩
  rw[<-hf]at hgf hwt hdl hdr
  obtain⟨fp,fd⟩:=f
  simp only at hwt hdl
  rw[hdr,qR]at hko
  simp only at hko
  have hsum:=pJ fd (by omega)
  have hfE:zC ⟨fp,fd⟩=.agg [.s fp,.s fd]:=rfl
  have hfd:=uA (sB bl (kyB bl)) (sha fd) (by rw[C6];omega)
  have e5:=ZT (sB bl (kyB bl))
  by_cases hh:kE (sha fd) bl=true
  ·rw[if_pos hh]at hko
   obtain⟨q,hq,_⟩:=GK (bl:=bl) (WC.1 hh)
   simp (disch:=omega) [zz,hlt',hgf,hfE]
   (repeat with_reducible refine om ?_)
   refine XF hsum rfl rfl (by simp) (by simp[q9,TV.er,AV.er]) ?_
   simp (disch:=omega) [zz,hrkE]
   (repeat with_reducible refine om ?_)
   refine YE hfd rfl rfl (by simp) (by simp[q9,TV.er,e5]) ?_
   rw[hq]
   simp (disch:=omega) [zz]
   refine hN' _ (i+1,j,bl) ?_ ⟨by simp only;omega,hko,by simp only;rw[hwt];exact hM.up (by omega),by simp only;rw[hwt];exact hD.up (by omega)⟩ (by simp only;omega)
   apply Le.of<;>simp[le9,hrkE]<;>try omega
  ·have hh':kE (sha fd) bl=false:=by simpa using hh
   rw[if_neg hh]at hko
   have hno:atB (sB bl (kyB bl)) (sha fd)=-1:=ze7 fun h=>hh (WC.2 h)
   have hrw:=zgF fd hdl
   have hbw:wtB fd=12+(wX fd).length:=rfl
   have hdm:=hD.m
   have had:=zcW (wX fd) j hD.ok (by omega)
   have hD2:=hD.addJ (wX fd)
   have e6:=XY j
   have hpt:=pT (sB bl (kyB bl)) (sha fd,fd) (by rw[C6];omega) (QE _) h32
   rw[zod]at hpt
   simp (disch:=omega) [zz,hlt',hgf,hfE]
   (repeat with_reducible refine om ?_)
   refine XF hsum rfl rfl (by simp) (by simp[q9,TV.er,AV.er]) ?_
   simp (disch:=omega) [zz,hrkE]
   (repeat with_reducible refine om ?_)
   refine YE hfd rfl rfl (by simp) (by simp[q9,TV.er,e5]) ?_
   rw[hno]
   simp (disch:=omega) [zz,hrkE]
   (repeat with_reducible refine om ?_)
   refine XF hrw rfl rfl (by simp) (by simp[q9,TV.er,AV.er,blobW]) ?_
   simp (disch:=omega) [zz]
   (repeat with_reducible refine om ?_)
   refine XF had rfl rfl (by simp) (by simp[q9,TV.er,AV.er,e6]) ?_
   obtain⟨j2,e2⟩:∃j2,j2=(addJ (wX fd) j).1:=⟨_,rfl⟩
   rw[<-e2]at hko hD2 |-
   by_cases he:(addJ (wX fd) j).2=0
   ·rw[if_pos he]at hko
    simp (disch:=omega) [zz,he]
    (repeat with_reducible refine om ?_)
    refine YE hpt rfl rfl (by simp) (by simp[q9,TV.er,AV.er,AV.ers,e5,yC]) ?_
    simp (disch:=omega) [zz]
    refine hN' _ (i+1,j2,kY (sha fd) fd bl) ?_ ⟨by simp only;omega,hko,by simp only;rw[hwt];exact(hM.put fd).up (by omega),by simp only;rw[hwt];exact hD2.up (by omega)⟩ (by simp only;omega)
    apply Le.of<;>simp[le9,hrkE]<;>try omega
   ·rw[if_neg he]at hko
    rw[<-hko]at hkk
    rw[if_pos (by simpa using he)]at hkk
    have eK2:=zb1 ⟨j2,k.mo,⟨k.M.L,bl⟩⟩
    rw[hrkE]at eK2
    simp (disch:=omega) [zz,he]
    (repeat with_reducible refine om ?_)
    refine hE _ _ (by simp) ?_
    simp (disch:=omega) [zz,hkk,Tryz.f14,hrkE,XY,CW,e5]
 ·have hlt':¬(i:Int)<outs.length:=by omega
  have hd0:outs.drop i=[]:=List.drop_of_length_le (by omega)
  rw[hd0,qR]at hko
  rw[<-hko]at hkk
  rw[if_neg (by simp)]at hkk
  simp only at hkk
  have hrw:=zeQ t hd
  have hwt:wtT t=12+(yS t).length:=rfl
  have hdm:=hD.m
  have hby:=PR t ht.1 hd ht.2.1 ht.2.2 (fun h=>by have:=WY hd h;omega)
  have hb:wO t=.tup [(.str,.s (WI t)),(.int .i64,.i .i64 0)]:=by unfold wO WI;rw[if_pos hc,if_pos hc]
  have had:=zcW (yS t) j hD.ok (by omega)
  have e6:=XY j
  have e7:=CW k.M
  have e5:=ZT (sB bl (kyB bl))
  have hra:=zjs (w9 k.M.L) t k.mo hI.lo hI.hi (by omega) hd.1 (fun x hx=>(zel hI.mem x hx).2) ht.ok (fun x hx=>(zel hI.mem x hx).1.W.ok)
  rw[zdj hI.mem.ok hc]at hra
  have hrm:∀bl,rkM ⟨kU k.mo k.M.L t,bl⟩=qU (w9 (kU k.mo k.M.L t)):=fun _=>rfl
  have e8:=QX (w9 (kU k.mo k.M.L t))
  have hrkA:∀(j:JV) (bl:BlL),rkE ⟨j,k.mo,⟨kU k.mo k.M.L t,bl⟩⟩=.agg [rjE j,.i .i64 k.mo,qU (w9 (kU k.mo k.M.L t)),kN (sB bl (kyB bl))]:=fun _ _=>rfl
  have hrm0:qU (w9 k.M.L)=rkM k.M:=rfl
  rw[hrm0]at hra
  simp (disch:=omega) [zz,hlt']
  refine hE _ _ (by simp) ?_
  clear hE hN'
  simp (disch:=omega) [zz]
  refine YE hby rfl rfl (by simp) (by simp[q9,TV.er,hte]) ?_
  rw[hb]
  simp (disch:=omega) [zz,hrkE]
  (repeat with_reducible refine om ?_)
  refine XF hrw rfl rfl (by simp) (by simp[q9,TV.er,AV.er,traceW]) ?_
  simp (disch:=omega) [zz]
  (repeat with_reducible refine om ?_)
  refine XF had rfl rfl (by simp) (by simp[q9,TV.er,AV.er,e6]) ?_
  obtain⟨j2,e2⟩:∃j2,j2=(addJ (yS t) j).1:=⟨_,rfl⟩
  rw[<-e2]at hkk |-
  have e9:=XY j2
  by_cases he:(addJ (yS t) j).2=0
  ·rw[if_neg (by simpa using he)]at hkk
   simp (disch:=omega) [zz,he]
   (repeat with_reducible refine om ?_)
   refine YE hra rfl rfl (by simp) (by simp[q9,TV.er,AV.er,e7,hte]) ?_
   simp (disch:=omega) [zz,hkk,Tryz.f14,hrkA,e9,e8,e5]
  ·rw[if_pos (by simpa using he)]at hkk
   simp (disch:=omega) [zz,he]
   (repeat with_reducible refine om ?_)
   simp (disch:=omega) [zz,hkk,Tryz.f14,hrkE,e9,e7,e5]
end
section
variable [Sel]
theorem AT.absE {c:Ctx} {code:Code} {K:Exit->St->Prop} {s:St} (Q:(Nat->TV)->Prop) (h0:Q s.env) (h:∀E,Q E->AT c code K { s with env:=E }):AT c code K s:=h s.env h0
abbrev TsT:TyD:=.slice 56
noncomputable def bxO (l:List qD):HObj:=.var TsT (.sl .no (trs l))
theorem zlT (l:List qD):(bxO l).er=bxO l:=by simp[bxO,HObj.er_var,AV.erk]
abbrev zt3:Cfg:=⟨fun n=>n==1,fun _=>false⟩
theorem zfK (l:List qD):q6 Tryz.prog 114 [.av TsT (.sl .no (trs l))] [] fun r H'=>∃c,r=.av .func (.fn 164 [.ptr c TsT []])/\H'=[(c,bxO l)]:=by
 refine zov Tryz.func114 zt3 fun imm0 w0=>?_
 simp (disch:=omega) [zz]
 intro c
 simp (disch:=omega) [zz,Tryz.f114,bxO,AV.ers]
theorem zmz {G:Nat->q7->Prop} (y c:Nat) (l:List qD) (hl:l.length<=1000000000) (hGe:∀k H,G k H->H.er=H)
  (hY:∀k (hk:k<l.length) H,G k H->YC Tryz.prog y [.av (.int .i64) (.i .i64 (l.length-1-k:Nat)),.av TrT (q5 (l[l.length-1-k]'(by omega)))] H fun r H'=>r=.av .bool (.b true)/\G (k+1) H') :
  ∀H,G 0 H->q6 Tryz.prog 164 [.av .func (.yl y),.av .ptr (.ptr c TsT [])] ((c,bxO l)::H)
   fun r H'=>r=.tup []/\∃H1,G l.length H1/\H'=(c,bxO l)::H1:=by
 intro H hG
 have hbe:=zlT l
 have hsl:∀x:List qD,(trs x).length=x.length:=fun x=>by simp[trs]
 refine zov Tryz.func164 cf0 fun imm0 w0=>?_
 simp (disch:=omega) [zz,bxO,hsl]
 refine AT.loop' (α:=Nat × q7) (fun p=>St.of [(0,.av .func (.yl y)),(1,.av .ptr (.ptr c TsT [])),(3,.av (.int .i64) (.i .i64 ((l.length:Int)-1-p.1)))] [] (fun _=>0) ((c,bxO l)::p.2))
  (fun p=>p.1<=l.length/\G p.1 p.2) (fun p=>l.length-p.1) (0,H) ?_ ?_ ?_
 ·apply Le.of<;>simp[k8,z1,bxO]<;>try omega
 ·exact⟨by omega,hG⟩
 rintro⟨k,H1⟩ ⟨hk,hG1⟩ KL hN hE
 simp only at hk hG1 hN
 refine zrd cf0 ?_
 by_cases hlt:k<l.length
 ·obtain⟨i,hi⟩:∃i:Nat,i=l.length-1-k:=⟨_,rfl⟩
  have hii:(l.length:Int)-1-k=i:=by omega
  have hil:i<l.length:=by omega
  have hgi:(trs l)[i]?=some (q5 l[i]):=by simp[trs,List.getElem?_eq_getElem hil]
  rw[hii]
  have hge:(0:Int)<=i:=by omega
  simp (disch:=omega) [zz,hge,bxO,hgi,hsl,hil]
  refine ZZ (R:=fun r H'=>r=.av .bool (.b true)/\G (k+1) H') H1 [(c,bxO l)] (List.perm_append_comm (l₁:=[_])) (by simp[qH]) ?_ ?_
  ·rw[hGe _ _ hG1]
   have:=hY k hlt _ hG1
   simpa[TV.er,<-hi]using this
  rintro r H2 ⟨rfl,hG2⟩ _
  refine⟨(c,bxO l)::H2,HSub.of_perm (List.perm_append_comm (l₂:=[_])),?_⟩
  simp (disch:=omega) [zz]
  refine hN _ (k+1,H2) ?_ ⟨by omega,hG2⟩ (by simp only;omega)
  apply Le.of<;>simp[k8,z1,bxO]<;>try omega
 ·have hge:(l.length:Int)-1-k=-1:=by omega
  rw[hge]
  simp (disch:=omega) [zz]
  refine hE _ _ (by simp) ?_
  have hkl:k=l.length:=by omega
  subst hkl
  have hH:=hGe _ _ hG1
  simp (disch:=omega) [zz,Tryz.f164,hH,hbe]
  exact⟨hG1,by first|rfl|simp[bxO]⟩
end
end Go.Proofs.YtognnffjdckalaaGreatDoor
