/- The buffer is turned into another one: as a tool. No condition. -/
import Derived.Test.YtfkcpballfhddaaGreatDoorKT6
set_option linter.unusedSimpArgs false
set_option linter.unusedVariables false
set_option linter.unusedSectionVars false
set_option maxHeartbeats 64000000
set_option maxRecDepth 100000
namespace Go.Proofs.YtfkcpballfhddaaGreatDoor
open Go Go.Ab
open Classical
section
variable [Sel] [SelPow] [SelMax]
theorem W8 (x:Txt) (b:List Txt):jU (x::b)=x++[10]++jU b:=by simp[jU]
theorem zdm {a b:List Txt} (h:a.Sublist b):(jU a).length<=(jU b).length:=by
 induction h with
 | slnil=>simp[jU]
 | cons x _ ih=>rw[W8];simp only[List.length_append];omega
 | cons_cons x _ ih=>rw[W8,W8];simp only[List.length_append];omega
theorem zia {a b:List Txt} (h:a.Perm b):(jU a).length=(jU b).length:=(h.flatMap_right _).length_eq
theorem zdq:∀l:List Txt,(kH l).Sublist l
 | []=>.slnil
 | [x]=>by simp[kH]
 | x::y::r=>by
  have:=zdq (y::r)
  unfold kH
  split
  ·exact this.cons _
  ·exact this.cons_cons _
theorem C2 (c:UInt8):∀l,(jU (qE c l)).length=l.length+1
 | []=>by simp[qE,jU]
 | b::l=>by
  have ih:=C2 c l
  have hne:=yU c l
  unfold qE
  split
  ·rw[W8];simp only[List.length_append,List.length_cons,List.length_nil,ih];omega
  ·cases hs:qE c l with
   | nil=>exact absurd hs hne
   | cons y q =>
    rw[hs,W8]at ih
    rw[W8]
    simp only[List.length_append,List.length_cons,List.length_nil]at ih |-
    omega
theorem zgI (l:Txt):(jU (qZ l)).length<=l.length+1:=by
 unfold qZ
 split
 ·simp[jU]
 ·rw[C2]
  have:=VD l [10]
  omega
theorem vH (l:List Txt) (ta ea:AV) (K:Nat) (r:qN):vD (jU l) ta ea K r.asks r.waits r.over=qP ta ea (wB l r).buf K r.asks r.waits (wB l r).over:=by
 unfold vD wB yS
 simp only[List.length_nil,Nat.zero_add]
 have:(l.flatMap (·++[10]))=jU l:=rfl
 rw[this]
 split<;>simp[wY]
theorem UR (R:Nat) {args:List TV} {r:qN} {p:jF} (hp:p.OK R r) (rowH:q8) (obj:HObj) (r':qN) (hr:w9 r r') (ho:obj=qP p.ta (j6 r.env) r'.buf p.K r.asks r.waits r'.over)
  (hc:q7 Tryz.prog 149 args ((R,qP p.ta (j6 r.env) r.buf p.K r.asks r.waits r.over)::rowH) fun y H'=>y=.tup []/\H'=[(R,obj)]) :
  q7 Tryz.prog 149 args (p.core R r++rowH) fun y H'=>y=.tup []/\z8 R r' H':=by
 refine q7.use (rest:=(p.K,.map 9 68 (knE r.known))::(p.TA++(p.QH++p.S))) ?_ hc ?_
 ·refine List.perm_iff_count.2 fun a=>?_
  simp only[jF.core,List.count_append,List.count_cons]
  omega
 rintro x H' ⟨rfl,rfl⟩ _
 refine⟨_,HSub.refl _,rfl,p,⟨hp.todo,by rw[hr.se];exact hp.seen,hp.box,by rw[hr.td];exact hp.tds⟩,?_⟩
 rw[ho]
 simp only[jF.core,hr.en,hr.ak,hr.wa,hr.kn,List.cons_append,List.nil_append]
theorem zqA (R:Nat) (name arg:Txt) {r:qN} {p:jF} (hp:p.OK R r) (v:AV) (rowH:q8) (hrow:KM (qZ r.buf) v rowH) (hb:r.buf.length<=65536) (hnm:name=zR\/name=zW\/name=qY\/name=z7\/name=zS) :
  q7 Tryz.prog 149 [.av .ptr (.ptr R wH []),.av .str (.s name),.av .str (.s arg),.av (.slice 9) v] (p.core R r++rowH) fun y H'=>y=.tup []/\z8 R (wV name arg r) H':=by
 obtain⟨_,e2⟩:=hp.todo.er hp.tds
 have e3:=j8 r.env
 have hj:=zgI r.buf
 have hn:=ZW r.buf
 have hst:=w9.turn name arg r hb
 rcases hnm with rfl|rfl|rfl|rfl|rfl
 ·have e:wV zR arg r=wB (kU (qZ r.buf)) r:=by simp[wV]
  rw[e]at hst |-
  refine UR R hp rowH _ _ hst (vH _ _ _ _ r) (zlr R arg _ v rowH hrow (by omega) _ _ _ _ _ _ _ e2 e3 ?_)
  rw[zia (JU _)];omega
 ·have e:wV zW arg r=wB (kH (qZ r.buf)) r:=by simp[wV,zR,zW]
  rw[e]at hst |-
  refine UR R hp rowH _ _ hst (vH _ _ _ _ r) (zkf R arg _ v rowH hrow (by omega) _ _ _ _ _ _ _ e2 e3 ?_)
  have:=zdm (zdq (qZ r.buf));omega
 ·have e:wV qY arg r={ r with buf:=r.buf.map upB }:=by simp[wV,zR,zW,qY]
  rw[e]at hst |-
  exact UR R hp rowH _ _ hst rfl (zif R arg _ v rowH hrow _ _ _ (by omega) _ _ _ _ e2 e3)
 ·have e:wV z7 arg r={ r with buf:=Lib.itoa (qZ r.buf).length++[10] }:=by simp[wV,zR,zW,qY,z7]
  rw[e]at hst |-
  exact UR R hp rowH _ _ hst rfl (zhb R arg _ v rowH hrow (by omega) _ _ _ _ _ _ _ e2 e3)
 ·have e:wV zS arg r=wB ((qZ r.buf).filter fun s=>Lib.contains s arg) r:=by simp[wV,zR,zW,qY,z7,zS]
  rw[e]at hst |-
  refine UR R hp rowH _ _ hst (vH _ _ _ _ r) (zkk R arg _ v rowH hrow (by omega) (fun x hx=>by have:=x5 hx;omega) _ _ _ _ _ _ _ e2 e3 ?_)
  exact Nat.le_trans (zdm List.filter_sublist) (by omega)
noncomputable def wU (p:jF) (r:qN):q8:=(p.K,.map 9 68 (knE r.known))::(p.TA++(p.QH++p.S))
theorem jO (p:jF) (R:Nat) (r:qN):p.core R r=(R,qP p.ta (j6 r.env) r.buf p.K r.asks r.waits r.over)::wU p r:=rfl
theorem uF (l:Txt) (hl:l.length<=65536):PC Tryz.prog 136 [.av .str (.s l)] (.av (.slice 9) (.sl .no (strs (qZ l)))):=zaG l (by omega)
abbrev zct:Cfg:=⟨fun n=>n==2||n==3||n==4,fun n=>n==1000008||n==2000039||n==40||n==1000012||n==2000055||n==56||n==1000019||n==85||n==1000021||n==96||n==1000006||n==31⟩
theorem zp9 (R:Nat) (pth rs:Txt) {r:qN} {p:jF} (hp:p.OK R r) (hb:RB r) (hbl:r.buf.length<=65536) :
  q7 Tryz.prog 112 [.av .ptr (.ptr R wH []),.av ZR (zX ⟨[qW,pth],rs⟩)] (p.core R r) fun y H'=>y=.tup []/\z8 R (QT pth (.there .add) r) H':=by
 have her:=(show z8 R r (p.core R r) from⟨p,hp,rfl⟩).er
 refine q7.sub (R:=fun y H'=>y=.tup []/\∃H2,Ab.HSub H2 H'/\z8 R (QT pth (.there .add) r) H2) ?_ fun y H' ⟨h1,H2,h2,h3⟩ _=>⟨H2,h2,h1,h3⟩
 obtain⟨rest,hrest⟩:∃rest,rest=wU p r:=⟨_,rfl⟩
 have hco:=jO p R r
 rw[<-hrest]at hco
 rw[hco]
 refine zov Tryz.func112 zct fun imm0 w0=>?_
 (simp (maxSteps:=2000000) (disch:=first|omega|assumption) [zz,-List.reduceReplicate,zX,strs,qW])
 intro b2 m1 m2 b3 o0 o1 o2 b4 q0 q1 q2 q3
 have sy:∀ {a b:Nat},¬a=b->¬b=a:=fun h e=>h e.symm
 have m1':=sy m1;have o0':=sy o0;have o1':=sy o1;have q0':=sy q0;have q1':=sy q1;have q2':=sy q2
 simp (disch:=omega) [zz,qP,m1,m1',o0,o0',o1,o1',q0,q0',q1,q1',q2,q2']
 refine zcv (uF r.buf hbl) ?_
 simp (disch:=omega) [zz,qP,m1,m1',o0,o0',o1,o1',q0,q0',q1,q1',q2,q2']
 refine kI.ofK [0,1,2,3,4,5,6] [0,1] [b2,b4] (by kernel_rfl) ?_
 simp (disch:=omega) [zz,zJ,m1,m1',o0,o0',o1,o1',q0,q0',q1,q1',q2,q2']
 (repeat with_reducible refine om ?_)
 obtain⟨tv,htv⟩:∃tv:AV,tv=.bm 141 [.ptr R wH []]:=⟨_,rfl⟩
 obtain⟨H1,hH1⟩:∃H1:q8,H1=(b4,zE pth)::(b3,w5 ⟨[qW,pth],rs⟩)::(b2,zJ R)::(R,qP p.ta (j6 r.env) r.buf p.K r.asks r.waits r.over)::rest:=⟨_,rfl⟩
 refine qD (R:=fun y H'=>∃br bt,y=.av .func (.fn 167 [.ptr br .ptr [],.ptr bt .func []])/\H'=[(bt,.var .func tv),(br,zJ R)]) [] H1 (by rw[hH1];simp[zE,zJ,w5,zX,strs,qW,qP]) rfl (by simp[qI]) (by simp) ?_ ?_
 ·have:=zgV R tv (by rw[htv];rfl) (by rw[htv];rfl)
  rw[<-htv]
  simpa[TV.er,AV.er,htv]using this
 rintro y H' ⟨br,bt,rfl,rfl⟩ hnd3
 refine⟨_,HSub.refl _,?_⟩
 rw[hH1]at hnd3 |-
 simp only[q8.keys,List.map_append,List.map_cons,List.map_nil,List.cons_append,List.nil_append,List.nodup_cons,List.mem_cons,not_or]at hnd3
 obtain⟨⟨_,g1,g2,g3,_⟩,⟨g4,g5,g6,_⟩,_⟩:=hnd3
 have g1':=sy g1;have g2':=sy g2;have g3':=sy g3;have g4':=sy g4;have g5':=sy g5;have g6':=sy g6
 simp (disch:=omega) [zz,V3,g1,g1',g2,g2',g3,g3',g4,g4',g5,g5',g6,g6',m1,m1',o0,o0',o1,o1',q0,q0',q1,q1',q2,q2',zE,zJ]
 (repeat with_reducible refine om ?_)
 obtain⟨p2,hp2e⟩:∃p2:jF,p2={ p with S:=(bt,QF tv)::(br,zJ R)::p.S }:=⟨_,rfl⟩
 have hp2:p2.OK R r:=by
  rw[hp2e]
  refine⟨hp.todo,hp.seen,?_,?_⟩
  ·simp only[q8.er_cons,hp.box,QF,zJ,HObj.er_var,AV.erk,htv];rfl
  ·exact hp.tds.mono fun z hz=>by simp[hz]
 have hcok:GH R p2.q p2.S (.there .add) (.fn 167 [.ptr br .ptr [],.ptr bt .func []]):=by
  rw[hp2e]
  exact⟨br,bt,tv,rfl,by simp,by simp,htv⟩
 have hask:=zhJ R pth (.there .add) _ hp2 hcok hb
 have her2:=(show z8 R r (p2.core R r) from⟨p2,hp2,rfl⟩).er
 refine qD (R:=fun y H'=>y=.tup []/\z8 R (QT pth (.there .add) r) H') (p2.core R r) [(b4,zE pth),(b3,w5 ⟨[qW,pth],rs⟩),(b2,zJ R)] ?_ rfl (by simp[qI]) (by simp) ?_ ?_
 ·rw[hp2e]
  refine List.perm_iff_count.2 fun a=>?_
  simp only[jF.core,hrest,wU,List.count_append,List.count_cons,List.count_nil,ZR,wH,zE,QF,zJ,w5,zX,strs,qW,qP,List.map_cons,List.map_nil]
  omega
 ·rw[her2]
  simpa[TV.er,AV.er]using hask
 rintro y H' ⟨rfl,hh⟩ _
 refine⟨H',HSub.of_sub (List.sublist_append_left _ _),?_⟩
 have hhe:=hh.er
 simp (disch:=omega) [zz,Tryz.f112,hhe]
 exact⟨H',HSub.refl _,hh⟩
theorem zrs (R:Nat) (pth rs:Txt) {r:qN} {p:jF} (hp:p.OK R r) (hb:RB r) (hbl:r.buf.length<=65536) :
  q7 Tryz.prog 112 [.av .ptr (.ptr R wH []),.av ZR (zX ⟨[jD,pth],rs⟩)] (p.core R r) fun y H'=>y=.tup []/\z8 R (QT pth .tr r) H':=by
 have her:=(show z8 R r (p.core R r) from⟨p,hp,rfl⟩).er
 refine q7.sub (R:=fun y H'=>y=.tup []/\∃H2,Ab.HSub H2 H'/\z8 R (QT pth .tr r) H2) ?_ fun y H' ⟨h1,H2,h2,h3⟩ _=>⟨H2,h2,h1,h3⟩
 obtain⟨rest,hrest⟩:∃rest,rest=wU p r:=⟨_,rfl⟩
 have hco:=jO p R r
 rw[<-hrest]at hco
 rw[hco]
 refine zov Tryz.func112 zct fun imm0 w0=>?_
 (simp (maxSteps:=2000000) (disch:=first|omega|assumption) [zz,-List.reduceReplicate,zX,strs,jD])
 intro b2 m1 m2 b3 o0 o1 o2 b4 q0 q1 q2 q3
 have sy:∀ {a b:Nat},¬a=b->¬b=a:=fun h e=>h e.symm
 have m1':=sy m1;have o0':=sy o0;have o1':=sy o1;have q0':=sy q0;have q1':=sy q1;have q2':=sy q2
 simp (disch:=omega) [zz,qP,m1,m1',o0,o0',o1,o1',q0,q0',q1,q1',q2,q2']
 refine zcv (uF r.buf hbl) ?_
 simp (disch:=omega) [zz,qP,m1,m1',o0,o0',o1,o1',q0,q0',q1,q1',q2,q2']
 obtain⟨p2,hp2e⟩:∃p2:jF,p2={ p with S:=(b2,zJ R)::p.S }:=⟨_,rfl⟩
 have hp2:p2.OK R r:=by
  rw[hp2e]
  refine⟨hp.todo,hp.seen,?_,?_⟩
  ·simp only[q8.er_cons,hp.box,zJ,HObj.er_var,AV.erk]
  ·exact hp.tds.mono fun z hz=>by simp[hz]
 have hcok:GH R p2.q p2.S .tr (.fn 142 [.ptr b2 .ptr []]):=by
  rw[hp2e]
  exact⟨b2,rfl,by simp⟩
 have hask:=zhJ R pth .tr _ hp2 hcok hb
 have her2:=(show z8 R r (p2.core R r) from⟨p2,hp2,rfl⟩).er
 refine qD (R:=fun y H'=>y=.tup []/\z8 R (QT pth .tr r) H') (p2.core R r) [(b4,zE pth),(b3,w5 ⟨[jD,pth],rs⟩)] ?_ rfl (by simp[qI]) (by simp) ?_ ?_
 ·rw[hp2e]
  refine List.perm_iff_count.2 fun a=>?_
  simp only[jF.core,hrest,wU,List.count_append,List.count_cons,List.count_nil,ZR,wH,zE,QF,zJ,w5,zX,strs,jD,qP,List.map_cons,List.map_nil]
  omega
 ·rw[her2]
  simpa[TV.er,AV.er]using hask
 rintro y H' ⟨rfl,hh⟩ _
 refine⟨H',HSub.of_sub (List.sublist_append_left _ _),?_⟩
 have hhe:=hh.er
 simp (disch:=omega) [zz,Tryz.f112,hhe]
 exact⟨H',HSub.refl _,hh⟩
theorem zpz (R:Nat) (rs:Txt) {r:qN} {p:jF} (hp:p.OK R r) (hb:RB r) (hbl:r.buf.length<=65536) (hrs:rs.length<=1000000) :
  q7 Tryz.prog 112 [.av .ptr (.ptr R wH []),.av ZR (zX ⟨[zH],rs⟩)] (p.core R r) fun y H'=>y=.tup []/\z8 R (yS (rs++[10]) r) H':=by
 have her:=(show z8 R r (p.core R r) from⟨p,hp,rfl⟩).er
 refine q7.sub (R:=fun y H'=>y=.tup []/\∃H2,Ab.HSub H2 H'/\z8 R (yS (rs++[10]) r) H2) ?_ fun y H' ⟨h1,H2,h2,h3⟩ _=>⟨H2,h2,h1,h3⟩
 obtain⟨rest,hrest⟩:∃rest,rest=wU p r:=⟨_,rfl⟩
 have hco:=jO p R r
 rw[<-hrest]at hco
 rw[hco]
 refine zov Tryz.func112 zct fun imm0 w0=>?_
 (simp (maxSteps:=2000000) (disch:=first|omega|assumption) [zz,-List.reduceReplicate,zX,strs,zH])
 intro b2 m1 m2 b3 o0 o1 o2 b4 q0 q1 q2 q3
 have sy:∀ {a b:Nat},¬a=b->¬b=a:=fun h e=>h e.symm
 have m1':=sy m1;have o0':=sy o0;have o1':=sy o1;have q0':=sy q0;have q1':=sy q1;have q2':=sy q2
 simp (disch:=omega) [zz,qP,m1,m1',o0,o0',o1,o1',q0,q0',q1,q1',q2,q2']
 refine zcv (uF r.buf hbl) ?_
 simp (disch:=omega) [zz,qP,m1,m1',o0,o0',o1,o1',q0,q0',q1,q1',q2,q2']
 refine⟨by omega,?_⟩
 refine qD (R:=fun y H'=>y=.tup []/\z8 R (yS (rs++[10]) r) H') (p.core R r) [(b4,zE []),(b3,w5 ⟨[zH],rs⟩),(b2,zJ R)] ?_ rfl (by simp[qI]) (by simp) ?_ ?_
 ·refine List.perm_iff_count.2 fun a=>?_
  simp only[jF.core,hrest,wU,List.count_append,List.count_cons,List.count_nil,ZR,wH,zE,QF,zJ,w5,zX,strs,zH,qP,List.map_cons,List.map_nil]
  omega
 ·rw[her]
  have:=zlM R (rs++[10]) (r:=r) (H:=p.core R r) ⟨p,hp,rfl⟩ hb.buf (by simp;omega)
  simpa[TV.er,AV.er]using this
 rintro y H' ⟨rfl,hh⟩ _
 refine⟨H',HSub.of_sub (List.sublist_append_left _ _),?_⟩
 have hhe:=hh.er
 simp (disch:=omega) [zz,Tryz.f112,hhe]
 exact⟨H',HSub.refl _,hh⟩
theorem zqi (R:Nat) (rs:Txt) {r:qN} {p:jF} (hp:p.OK R r) (hb:RB r) (hbl:r.buf.length<=65536) :
  q7 Tryz.prog 112 [.av .ptr (.ptr R wH []),.av ZR (zX ⟨[zZ],rs⟩)] (p.core R r) fun y H'=>y=.tup []/\z8 R (wY 15 r) H':=by
 have her:=(show z8 R r (p.core R r) from⟨p,hp,rfl⟩).er
 refine q7.sub (R:=fun y H'=>y=.tup []/\∃H2,Ab.HSub H2 H'/\z8 R (wY 15 r) H2) ?_ fun y H' ⟨h1,H2,h2,h3⟩ _=>⟨H2,h2,h1,h3⟩
 obtain⟨rest,hrest⟩:∃rest,rest=wU p r:=⟨_,rfl⟩
 have hco:=jO p R r
 rw[<-hrest]at hco
 rw[hco]
 refine zov Tryz.func112 zct fun imm0 w0=>?_
 (simp (maxSteps:=2000000) (disch:=first|omega|assumption) [zz,-List.reduceReplicate,zX,strs,zZ])
 intro b2 m1 m2 b3 o0 o1 o2 b4 q0 q1 q2 q3
 have sy:∀ {a b:Nat},¬a=b->¬b=a:=fun h e=>h e.symm
 have m1':=sy m1;have o0':=sy o0;have o1':=sy o1;have q0':=sy q0;have q1':=sy q1;have q2':=sy q2
 simp (disch:=omega) [zz,qP,m1,m1',o0,o0',o1,o1',q0,q0',q1,q1',q2,q2']
 refine zcv (uF r.buf hbl) ?_
 simp (disch:=omega) [zz,qP,m1,m1',o0,o0',o1,o1',q0,q0',q1,q1',q2,q2']
 refine qD (R:=fun y H'=>y=.tup []/\z8 R (wY 15 r) H') (p.core R r) [(b4,zE []),(b3,w5 ⟨[zZ],rs⟩),(b2,zJ R)] ?_ rfl (by simp[qI]) (by simp) ?_ ?_
 ·refine List.perm_iff_count.2 fun a=>?_
  simp only[jF.core,hrest,wU,List.count_append,List.count_cons,List.count_nil,ZR,wH,zE,QF,zJ,w5,zX,strs,zZ,qP,List.map_cons,List.map_nil]
  omega
 ·rw[her]
  exact q7.args (zf5 R 15 (r:=r) (H:=p.core R r) ⟨p,hp,rfl⟩) (by simp[qM,coC,TV.er,AV.er])
 rintro y H' ⟨rfl,hh⟩ _
 refine⟨H',HSub.of_sub (List.sublist_append_left _ _),?_⟩
 have hhe:=hh.er
 simp (disch:=omega) [zz,Tryz.f112,hhe]
 exact⟨H',HSub.refl _,hh⟩
theorem zn9 (R:Nat) (pth rs:Txt) {r:qN} {p:jF} (hp:p.OK R r) (hb:RB r) (hbl:r.buf.length<=65536) :
  q7 Tryz.prog 112 [.av .ptr (.ptr R wH []),.av ZR (zX ⟨[qV,pth],rs⟩)] (p.core R r) fun y H'=>y=.tup []/\z8 R ({ r with over:=⟨2,pth,r.buf,0⟩,buf:=[] }) H':=by
 have her:=(show z8 R r (p.core R r) from⟨p,hp,rfl⟩).er
 refine q7.sub (R:=fun y H'=>y=.tup []/\∃H2,Ab.HSub H2 H'/\z8 R ({ r with over:=⟨2,pth,r.buf,0⟩,buf:=[] }) H2) ?_ fun y H' ⟨h1,H2,h2,h3⟩ _=>⟨H2,h2,h1,h3⟩
 obtain⟨rest,hrest⟩:∃rest,rest=wU p r:=⟨_,rfl⟩
 have hco:=jO p R r
 rw[<-hrest]at hco
 rw[hco]
 refine zov Tryz.func112 zct fun imm0 w0=>?_
 (simp (maxSteps:=2000000) (disch:=first|omega|assumption) [zz,-List.reduceReplicate,zX,strs,qV])
 intro b2 m1 m2 b3 o0 o1 o2 b4 q0 q1 q2 q3
 have sy:∀ {a b:Nat},¬a=b->¬b=a:=fun h e=>h e.symm
 have m1':=sy m1;have o0':=sy o0;have o1':=sy o1;have q0':=sy q0;have q1':=sy q1;have q2':=sy q2
 simp (disch:=omega) [zz,qP,m1,m1',o0,o0',o1,o1',q0,q0',q1,q1',q2,q2']
 refine zcv (uF r.buf hbl) ?_
 simp (disch:=omega) [zz,qP,m1,m1',o0,o0',o1,o1',q0,q0',q1,q1',q2,q2']
 obtain⟨_,e2⟩:=hp.todo.er hp.tds
 have e3:=j8 r.env
 have hrer:rest.er=rest:=by
  rw[hco,q8.er_cons]at her
  exact(List.cons.inj her).2
 (repeat with_reducible refine om ?_)
 refine kI.ofK [0,1,2,3,4,5,6,7,8,9] [] [] (by kernel_rfl) ?_
 simp (disch:=omega) [zz,qP,jX,m1,m1',o0,o0',o1,o1',q0,q0',q1,q1',q2,q2']
 (repeat with_reducible refine om ?_)
 simp (disch:=omega) [zz,qP,jX,m1,m1',o0,o0',o1,o1',q0,q0',q1,q1',q2,q2',e2,e3,hrer,Tryz.f112]
 refine⟨p.core R { r with over:=⟨2,pth,r.buf,0⟩,buf:=[] },HSub.of_sub ?_,p,⟨hp.todo,hp.seen,hp.box,hp.tds⟩,rfl⟩
 rw[jO]
 have:wU p { r with over:=⟨2,pth,r.buf,0⟩,buf:=[] }=rest:=by rw[hrest];rfl
 rw[this]
 simp only[qP,jX]
 exact(((List.Sublist.refl _).cons _).cons _).cons _
abbrev zt9:TyD:=.struct [9,9]
@[simp] theorem zsG (x:Txt × Txt):(WR x).er=WR x:=rfl
theorem zpi (b:Nat) (arg:Txt) (x:Txt × Txt):q7 Tryz.prog 145 [.av zt9 (WR x),.av .ptr (.ptr b .str [])] [(b,zE arg)] fun r H'=>r=.av .bool (.b (decide (x.1=arg)))/\H'=[(b,zE arg)]:=by
 refine zov Tryz.func145 cf0 fun imm0 w0=>?_
 simp (disch:=omega) [zz,zE,WR,Tryz.f145]
theorem zoi (b:Nat) (arg:Txt) (ts:List (Txt × Txt)) (hn:ts.length<=1000000000) :
  q7 Tryz.prog 144 [.av (.slice 136) (j6 ts),.av .func (.fn 145 [.ptr b .str []])] [(b,zE arg)]
   fun r H'=>r=.av (.int .i64) (.i .i64 (ZP (fun x=>decide (x.1=arg)) ts))/\H'=[(b,zE arg)]:=by
 have hbe:(zE arg).er=zE arg:=rfl
 refine zov Tryz.func144 cf0 fun imm0 w0=>?_
 simp (disch:=omega) [zz,j6]
 refine AT.loop' (α:=Nat) (fun k=>St.of [(0,.av (.slice 136) (.sl .no (ts.map WR))),(1,.av .func (.fn 145 [.ptr b .str []])),(7,.av (.int .i64) (.i .i64 ts.length)),(8,.av (.int .i64) (.i .i64 k))] [] (fun _=>0) [(b,zE arg)])
  (fun k=>k<=ts.length/\∀x∈ts.take k,(fun x:Txt × Txt=>decide (x.1=arg)) x=false) (fun k=>ts.length-k) 0 ?_ ?_ ?_
 ·apply Le.of<;>simp[zA,qF]
 ·simp
 rintro k ⟨hk',hpk⟩ KL hN hE
 refine zrd cf0 ?_
 by_cases hlt:k<ts.length
 ·have hlt':(k:Int)<ts.length:=by omega
  have hg:(ts.map WR)[k]?=some (WR ts[k]):=by simp[List.getElem?_eq_getElem hlt]
  simp (disch:=omega) [zz,hlt',hg]
  refine qD (R:=fun r' H'=>r'=.av .bool (.b (decide (ts[k].1=arg)))/\H'=[(b,zE arg)]) [(b,zE arg)] [] (by simp) rfl (by simp[qI]) (by simp) ?_ ?_
  ·rw[q8.er_cons,hbe]
   simpa[TV.er,AV.er]using zpi b arg ts[k]
  rintro r' H' ⟨rfl,rfl⟩ _
  refine⟨[(b,zE arg)],HSub.refl _,?_⟩
  by_cases hpp:ts[k].1=arg
  ·simp (disch:=omega) [zz,hpp]
   refine hE _ _ (by simp) ?_
   simp (disch:=omega) [zz,Tryz.f144,W6 (p:=fun x:Txt × Txt=>decide (x.1=arg)) hlt hpk (by simpa using hpp),hbe]
  ·simp (disch:=omega) [zz,hpp]
   refine hN _ (k+1) ?_ ⟨by omega,by rw[yG hlt];exact⟨hpk,by simpa using hpp⟩⟩ (by omega)
   apply Le.of<;>simp[zA,qF]
 ·have hlt':¬(k:Int)<ts.length:=by omega
  simp (disch:=omega) [zz,hlt']
  refine hE _ _ (by simp) ?_
  rw[List.take_of_length_le (by omega)]at hpk
  simp (disch:=omega) [zz,Tryz.f144,K0 (p:=fun x:Txt × Txt=>decide (x.1=arg)) hpk,hbe]
theorem zrO (R:Nat) (arg rs:Txt) {r:qN} {p:jF} (hp:p.OK R r) (hb:RB r) (hbl:r.buf.length<=65536) (hen:r.env.length<=1000000000) (hev:∀x∈r.env,x.2.length<=1000000000000000) :
  q7 Tryz.prog 112 [.av .ptr (.ptr R wH []),.av ZR (zX ⟨[jL,arg],rs⟩)] (p.core R r) fun y H'=>y=.tup []/\z8 R (match r.env.find? (fun x=>decide (x.1=arg))with|some x=>yS x.2 r|none=>wY 10 r) H':=by
 have her:=(show z8 R r (p.core R r) from⟨p,hp,rfl⟩).er
 refine q7.sub (R:=fun y H'=>y=.tup []/\∃H2,Ab.HSub H2 H'/\z8 R (match r.env.find? (fun x=>decide (x.1=arg))with|some x=>yS x.2 r|none=>wY 10 r) H2) ?_ fun y H' ⟨h1,H2,h2,h3⟩ _=>⟨H2,h2,h1,h3⟩
 obtain⟨rest,hrest⟩:∃rest,rest=wU p r:=⟨_,rfl⟩
 have hco:=jO p R r
 rw[<-hrest]at hco
 rw[hco]
 refine zov Tryz.func112 zct fun imm0 w0=>?_
 (simp (maxSteps:=2000000) (disch:=first|omega|assumption) [zz,-List.reduceReplicate,zX,strs,jL])
 intro b2 m1 m2 b3 o0 o1 o2 b4 q0 q1 q2 q3
 have sy:∀ {a b:Nat},¬a=b->¬b=a:=fun h e=>h e.symm
 have m1':=sy m1;have o0':=sy o0;have o1':=sy o1;have q0':=sy q0;have q1':=sy q1;have q2':=sy q2
 simp (disch:=omega) [zz,qP,m1,m1',o0,o0',o1,o1',q0,q0',q1,q1',q2,q2']
 refine zcv (uF r.buf hbl) ?_
 simp (disch:=omega) [zz,qP,m1,m1',o0,o0',o1,o1',q0,q0',q1,q1',q2,q2']
 obtain⟨q,hq⟩:∃q,q=ZP (fun x:Txt × Txt=>decide (x.1=arg)) r.env:=⟨_,rfl⟩
 have hix:=zoi b4 arg r.env hen
 rw[<-hq]at hix
 refine qD (R:=fun r' H'=>r'=.av (.int .i64) (.i .i64 q)/\H'=[(b4,zE arg)]) [(b4,zE arg)] ((b3,w5 ⟨[jL,arg],rs⟩)::(b2,zJ R)::(R,qP p.ta (j6 r.env) r.buf p.K r.asks r.waits r.over)::rest) (by simp[zE,zJ,w5,zX,strs,jL,qP]) rfl (by simp[qI]) (by simp) ?_ ?_
 ·have e9:=j8 r.env
  simpa[TV.er,AV.er,q8.er_cons,zE,HObj.er_var,AV.erk,j6,AV.ers_eq,Function.comp_def]using hix
 rintro r' H' ⟨rfl,rfl⟩ _
 refine⟨_,HSub.refl _,?_⟩
 rcases zat (fun x:Txt × Txt=>decide (x.1=arg)) r.env with⟨he,hf⟩|⟨i,hi,he,hf⟩
 ·rw[<-hq]at he
  subst he
  simp (disch:=omega) [zz,hf,zE,zJ,w5,zX,strs,qP,m1,m1',o0,o0',o1,o1',q0,q0',q1,q1',q2,q2']
  refine qD (R:=fun y H'=>y=.tup []/\z8 R (wY 10 r) H') (p.core R r) [(b4,zE arg),(b3,w5 ⟨[jL,arg],rs⟩),(b2,zJ R)] ?_ rfl (by simp[qI]) (by simp) ?_ ?_
  ·refine List.perm_iff_count.2 fun a=>?_
   simp only[jF.core,hrest,wU,List.count_append,List.count_cons,List.count_nil,ZR,wH,zE,QF,zJ,w5,zX,strs,jL,qP,List.map_cons,List.map_nil]
   omega
  ·rw[her]
   exact q7.args (zf5 R 10 (r:=r) (H:=p.core R r) ⟨p,hp,rfl⟩) (by simp[qM,coC,TV.er,AV.er])
  rintro y H' ⟨rfl,hh⟩ _
  refine⟨H',HSub.of_sub (List.sublist_append_left _ _),?_⟩
  have hhe:=hh.er
  simp (disch:=omega) [zz,Tryz.f112,hhe]
  exact⟨H',HSub.refl _,hh⟩
 ·rw[<-hq]at he
  subst he
  have h0:¬(i:Int)<0:=by omega
  have hil:(i:Int)<r.env.length:=by omega
  have hg:(r.env.map WR)[i]?=some (WR r.env[i]):=by simp[List.getElem?_eq_getElem hi]
  have hvl:=hev _ (List.getElem_mem hi)
  simp (disch:=omega) [zz,h0,zE,zJ,w5,zX,j6,strs,qP,m1,m1',o0,o0',o1,o1',q0,q0',q1,q1',q2,q2']
  refine kI.ofK [0,1,2,3,4,5,6,7,8,9] [] [] (by kernel_rfl) ?_
  simp (disch:=omega) [zz,h0,hf,hil,hg,hi,WR,m1,m1',o0,o0',o1,o1',q0,q0',q1,q1',q2,q2']
  (repeat with_reducible refine om ?_)
  refine qD (R:=fun y H'=>y=.tup []/\z8 R (yS r.env[i].2 r) H') (p.core R r) [(b4,zE arg),(b3,w5 ⟨[jL,arg],rs⟩),(b2,zJ R)] ?_ rfl (by simp[qI]) (by simp) ?_ ?_
  ·refine List.perm_iff_count.2 fun a=>?_
   simp only[jF.core,hrest,wU,List.count_append,List.count_cons,List.count_nil,ZR,wH,zE,QF,zJ,j6,w5,zX,strs,jL,qP,List.map_cons,List.map_nil]
   omega
  ·rw[her]
   have:=zlM R r.env[i].2 (r:=r) (H:=p.core R r) ⟨p,hp,rfl⟩ hb.buf (by omega)
   simpa[TV.er,AV.er]using this
  rintro y H' ⟨rfl,hh⟩ _
  refine⟨H',HSub.of_sub (List.sublist_append_left _ _),?_⟩
  have hhe:=hh.er
  simp (disch:=omega) [zz,Tryz.f112,hhe]
  exact⟨H',HSub.refl _,hh⟩
theorem zor (R:Nat) (nm arg rs:Txt) {r:qN} {p:jF} (hp:p.OK R r) (hb:RB r) (hbl:r.buf.length<=65536) (hnm:nm=zR\/nm=zW\/nm=qY\/nm=z7\/nm=zS) :
  q7 Tryz.prog 112 [.av .ptr (.ptr R wH []),.av ZR (zX ⟨[nm,arg],rs⟩)] (p.core R r) fun y H'=>y=.tup []/\z8 R (wV nm arg r) H':=by
 have her:=(show z8 R r (p.core R r) from⟨p,hp,rfl⟩).er
 refine q7.sub (R:=fun y H'=>y=.tup []/\∃H2,Ab.HSub H2 H'/\z8 R (wV nm arg r) H2) ?_ fun y H' ⟨h1,H2,h2,h3⟩ _=>⟨H2,h2,h1,h3⟩
 obtain⟨rest,hrest⟩:∃rest,rest=wU p r:=⟨_,rfl⟩
 have hco:=jO p R r
 rw[<-hrest]at hco
 rw[hco]
 have hne:(¬nm=[114,101,97,100])/\(¬nm=[116,114,121])/\(¬nm=[115,99,97,110])/\(¬nm=[116,101,120,116])/\(¬nm=[101,110,118])/\(¬nm=[119,114,105,116,101])/\(¬nm=[110,101,101,100])/\(¬nm=[102,97,105,108]):=by
  rcases hnm with rfl|rfl|rfl|rfl|rfl<;>decide
 obtain⟨h1,h2,h3,h4,h5,h6,h7,h8⟩:=hne
 refine zov Tryz.func112 zct fun imm0 w0=>?_
 (simp (maxSteps:=2000000) (disch:=first|omega|assumption) [zz,-List.reduceReplicate,zX,strs,h1,h2,h3,h4,h5,h6,h7,h8])
 intro b2 m1 m2 b3 o0 o1 o2 b4 q0 q1 q2 q3
 have sy:∀ {a b:Nat},¬a=b->¬b=a:=fun h e=>h e.symm
 have m1':=sy m1;have o0':=sy o0;have o1':=sy o1;have q0':=sy q0;have q1':=sy q1;have q2':=sy q2
 simp (disch:=omega) [zz,qP,m1,m1',o0,o0',o1,o1',q0,q0',q1,q1',q2,q2']
 obtain⟨bx,hbx⟩:∃bx:q8,bx=(b4,zE arg)::(b3,w5 ⟨[nm,arg],rs⟩)::(b2,zJ R)::(R,qP p.ta (j6 r.env) r.buf p.K r.asks r.waits r.over)::rest:=⟨_,rfl⟩
 refine qD (R:=zag (qZ r.buf)) [] bx (by rw[hbx];simp[zE,zJ,w5,zX,strs,qP,zL]) rfl (by simp[qI]) (by simp) ?_ ?_
 ·simpa[TV.er,AV.er]using pC r.buf (by omega)
 intro rr HR hR hndR
 obtain⟨v,rfl,hrow⟩:=KM.of hR
 have hb4:∀b∈HR.keys,b≠b4:=by
  intro b hb e
  rw[hbx]at hndR
  simp only[q8.keys,List.map_append,List.map_cons]at hndR
  have:=(List.nodup_append.1 hndR).2.2 b hb b4 (by simp)
  exact this e
 refine⟨bx++HR,HSub.of_perm List.perm_append_comm,?_⟩
 have hrer:=hrow.er
 rw[hbx]
 simp (disch:=omega) [zz,qP,zJ,zE,w5,zX,strs,h1,h2,h3,h4,h5,h6,h7,h8,m1,m1',o0,o0',o1,o1',q0,q0',q1,q1',q2,q2']
 refine kI.ofK [0,1,2,3,4,5,6,7] [] [] (by kernel_rfl) ?_
 simp (disch:=omega) [zz,m1,m1',o0,o0',o1,o1',q0,q0',q1,q1',q2,q2']
 (repeat with_reducible refine om ?_)
 have htu:=zqA R nm arg hp v HR hrow hbl hnm
 refine qD (R:=fun y H'=>y=.tup []/\z8 R (wV nm arg r) H') (p.core R r++HR) [(b4,zE arg),(b3,w5 ⟨[nm,arg],rs⟩),(b2,zJ R)] ?_ rfl (by simp[qI]) (by simp) ?_ ?_
 ·refine List.perm_iff_count.2 fun a=>?_
  simp only[jF.core,hrest,wU,List.count_append,List.count_cons,List.count_nil,ZR,wH,zE,QF,zJ,w5,zX,strs,zR,qP,List.map_cons,List.map_nil]
  omega
 ·rw[q8.er_app,her,hrer.1]
  simpa[TV.er,AV.er,hrer.2]using htu
 rintro y H' ⟨rfl,hh⟩ _
 refine⟨H',HSub.of_sub (List.sublist_append_left _ _),?_⟩
 have hhe:=hh.er
 simp (disch:=omega) [zz,Tryz.f112,hhe]
 exact⟨H',HSub.refl _,hh⟩
theorem pN (R:Nat) (nm rs:Txt) {r:qN} {p:jF} (hp:p.OK R r) (hb:RB r) (hbl:r.buf.length<=65536) (hnm:nm=zR\/nm=zW\/nm=qY\/nm=z7\/nm=zS) :
  q7 Tryz.prog 112 [.av .ptr (.ptr R wH []),.av ZR (zX ⟨[nm],rs⟩)] (p.core R r) fun y H'=>y=.tup []/\z8 R (wV nm [] r) H':=by
 have her:=(show z8 R r (p.core R r) from⟨p,hp,rfl⟩).er
 refine q7.sub (R:=fun y H'=>y=.tup []/\∃H2,Ab.HSub H2 H'/\z8 R (wV nm [] r) H2) ?_ fun y H' ⟨h1,H2,h2,h3⟩ _=>⟨H2,h2,h1,h3⟩
 obtain⟨rest,hrest⟩:∃rest,rest=wU p r:=⟨_,rfl⟩
 have hco:=jO p R r
 rw[<-hrest]at hco
 rw[hco]
 have hne:(¬nm=[114,101,97,100])/\(¬nm=[116,114,121])/\(¬nm=[115,99,97,110])/\(¬nm=[116,101,120,116])/\(¬nm=[101,110,118])/\(¬nm=[119,114,105,116,101])/\(¬nm=[110,101,101,100])/\(¬nm=[102,97,105,108]):=by
  rcases hnm with rfl|rfl|rfl|rfl|rfl<;>decide
 obtain⟨h1,h2,h3,h4,h5,h6,h7,h8⟩:=hne
 refine zov Tryz.func112 zct fun imm0 w0=>?_
 (simp (maxSteps:=2000000) (disch:=first|omega|assumption) [zz,-List.reduceReplicate,zX,strs,h1,h2,h3,h4,h5,h6,h7,h8])
 intro b2 m1 m2 b3 o0 o1 o2 b4 q0 q1 q2 q3
 have sy:∀ {a b:Nat},¬a=b->¬b=a:=fun h e=>h e.symm
 have m1':=sy m1;have o0':=sy o0;have o1':=sy o1;have q0':=sy q0;have q1':=sy q1;have q2':=sy q2
 simp (disch:=omega) [zz,qP,m1,m1',o0,o0',o1,o1',q0,q0',q1,q1',q2,q2']
 obtain⟨bx,hbx⟩:∃bx:q8,bx=(b4,zE [])::(b3,w5 ⟨[nm],rs⟩)::(b2,zJ R)::(R,qP p.ta (j6 r.env) r.buf p.K r.asks r.waits r.over)::rest:=⟨_,rfl⟩
 refine qD (R:=zag (qZ r.buf)) [] bx (by rw[hbx];simp[zE,zJ,w5,zX,strs,qP,zL]) rfl (by simp[qI]) (by simp) ?_ ?_
 ·simpa[TV.er,AV.er]using pC r.buf (by omega)
 intro rr HR hR hndR
 obtain⟨v,rfl,hrow⟩:=KM.of hR
 have hb4:∀b∈HR.keys,b≠b4:=by
  intro b hb e
  rw[hbx]at hndR
  simp only[q8.keys,List.map_append,List.map_cons]at hndR
  have:=(List.nodup_append.1 hndR).2.2 b hb b4 (by simp)
  exact this e
 refine⟨bx++HR,HSub.of_perm List.perm_append_comm,?_⟩
 have hrer:=hrow.er
 rw[hbx]
 simp (disch:=omega) [zz,qP,zJ,zE,w5,zX,strs,h1,h2,h3,h4,h5,h6,h7,h8,m1,m1',o0,o0',o1,o1',q0,q0',q1,q1',q2,q2']
 refine kI.ofK [0,1,2,3,4,5,6,7] [] [] (by kernel_rfl) ?_
 simp (disch:=omega) [zz,m1,m1',o0,o0',o1,o1',q0,q0',q1,q1',q2,q2']
 (repeat with_reducible refine om ?_)
 have htu:=zqA R nm [] hp v HR hrow hbl hnm
 refine qD (R:=fun y H'=>y=.tup []/\z8 R (wV nm [] r) H') (p.core R r++HR) [(b4,zE []),(b3,w5 ⟨[nm],rs⟩),(b2,zJ R)] ?_ rfl (by simp[qI]) (by simp) ?_ ?_
 ·refine List.perm_iff_count.2 fun a=>?_
  simp only[jF.core,hrest,wU,List.count_append,List.count_cons,List.count_nil,ZR,wH,zE,QF,zJ,w5,zX,strs,zR,qP,List.map_cons,List.map_nil]
  omega
 ·rw[q8.er_app,her,hrer.1]
  simpa[TV.er,AV.er,hrer.2]using htu
 rintro y H' ⟨rfl,hh⟩ _
 refine⟨H',HSub.of_sub (List.sublist_append_left _ _),?_⟩
 have hhe:=hh.er
 simp (disch:=omega) [zz,Tryz.f112,hhe]
 exact⟨H',HSub.refl _,hh⟩
def zgL (arg:Txt) (r:qN):qN:=if (qZ r.buf).any (fun s=>Lib.contains s arg)=true then r else wY 15 r
theorem zrE (b:Nat) (arg x:Txt) (hx:x.length<=1000000000):q7 Tryz.prog 147 [.av .str (.s x),.av .ptr (.ptr b .str [])] [(b,zE arg)] fun r H'=>r=.av .bool (.b (Lib.contains x arg))/\H'=[(b,zE arg)]:=by
 refine zov Tryz.func147 cf0 fun imm0 w0=>?_
 simp (disch:=omega) [zz,zE]
 refine zcv (cC x arg (by omega)) ?_
 simp (disch:=omega) [zz,Tryz.f147]
theorem zqq (R:Nat) (arg rs:Txt) {r:qN} {p:jF} (hp:p.OK R r) (hb:RB r) (hbl:r.buf.length<=65536) (hal:arg.length<=1000000) :
  q7 Tryz.prog 112 [.av .ptr (.ptr R wH []),.av ZR (zX ⟨[zL,arg],rs⟩)] (p.core R r) fun y H'=>y=.tup []/\z8 R (zgL arg r) H':=by
 have her:=(show z8 R r (p.core R r) from⟨p,hp,rfl⟩).er
 refine q7.sub (R:=fun y H'=>y=.tup []/\∃H2,Ab.HSub H2 H'/\z8 R (zgL arg r) H2) ?_ fun y H' ⟨h1,H2,h2,h3⟩ _=>⟨H2,h2,h1,h3⟩
 obtain⟨rest,hrest⟩:∃rest,rest=wU p r:=⟨_,rfl⟩
 have hco:=jO p R r
 rw[<-hrest]at hco
 rw[hco]
 refine zov Tryz.func112 zct fun imm0 w0=>?_
 (simp (maxSteps:=2000000) (disch:=first|omega|assumption) [zz,-List.reduceReplicate,zX,strs,zL])
 intro b2 m1 m2 b3 o0 o1 o2 b4 q0 q1 q2 q3
 have sy:∀ {a b:Nat},¬a=b->¬b=a:=fun h e=>h e.symm
 have m1':=sy m1;have o0':=sy o0;have o1':=sy o1;have q0':=sy q0;have q1':=sy q1;have q2':=sy q2
 simp (disch:=omega) [zz,qP,m1,m1',o0,o0',o1,o1',q0,q0',q1,q1',q2,q2']
 obtain⟨bx,hbx⟩:∃bx:q8,bx=(b4,zE arg)::(b3,w5 ⟨[zL,arg],rs⟩)::(b2,zJ R)::(R,qP p.ta (j6 r.env) r.buf p.K r.asks r.waits r.over)::rest:=⟨_,rfl⟩
 refine qD (R:=zag (qZ r.buf)) [] bx (by rw[hbx];simp[zE,zJ,w5,zX,strs,qP,zL]) rfl (by simp[qI]) (by simp) ?_ ?_
 ·simpa[TV.er,AV.er]using pC r.buf (by omega)
 intro rr HR hR hndR
 obtain⟨v,rfl,hrow⟩:=KM.of hR
 have hb4:∀b∈HR.keys,b≠b4:=by
  intro b hb e
  rw[hbx]at hndR
  simp only[q8.keys,List.map_append,List.map_cons]at hndR
  have:=(List.nodup_append.1 hndR).2.2 b hb b4 (by simp)
  exact this e
 refine⟨bx++HR,HSub.of_perm List.perm_append_comm,?_⟩
 have hrer:=hrow.er
 rw[hbx]
 simp (disch:=omega) [zz,qP,zJ,zE,w5,zX,strs,zL,m1,m1',o0,o0',o1,o1',q0,q0',q1,q1',q2,q2']
 have hpr:zdO (.fn 147 [.ptr b4 .str []]) b4 (zE arg) (fun s=>Lib.contains s arg) (qZ r.buf):=⟨rfl,rfl,fun x hxm=>⟨_,rfl,by simp,by have hxl:=x5 hxm;simpa[TV.er,AV.er]using zrE b4 arg x (by omega)⟩⟩
 have hany:=zoR _ _ b4 (zE arg) (qZ r.buf) hpr v HR hrow hb4 (by have:=ZW r.buf;omega)
 obtain⟨q,hq⟩:∃q,q=(qZ r.buf).any (fun s=>Lib.contains s arg):=⟨_,rfl⟩
 rw[<-hq]at hany
 have hnr:zgL arg r=if q=true then r else wY 15 r:=by rw[hq];rfl
 rw[hnr]
 refine qD (R:=fun r' H'=>r'=.av .bool (.b q)/\H'=HR++[(b4,zE arg)]) (HR++[(b4,zE arg)]) ((b3,w5 ⟨[zL,arg],rs⟩)::(b2,zJ R)::(R,qP p.ta (j6 r.env) r.buf p.K r.asks r.waits r.over)::rest) ?_ rfl (by simp[qI]) (by simp) ?_ ?_
 ·refine List.perm_iff_count.2 fun a=>?_
  simp only[jF.core,hrest,wU,List.count_append,List.count_cons,List.count_nil,ZR,wH,zE,QF,zJ,w5,zX,strs,zL,qP,List.map_cons,List.map_nil]
  omega
 ·rw[q8.er_app,hrer.1]
  simpa[TV.er,AV.er,q8.er_cons,zE,HObj.er_var,AV.erk,hrer.2]using hany
 rintro r' H' ⟨rfl,rfl⟩ _
 refine⟨(b4,zE arg)::(b3,w5 ⟨[zL,arg],rs⟩)::(b2,zJ R)::p.core R r,⟨HR++((b4,zE arg)::(b3,w5 ⟨[zL,arg],rs⟩)::(b2,zJ R)::p.core R r),?_,List.sublist_append_right _ _⟩,?_⟩
 ·refine List.perm_iff_count.2 fun a=>?_
  simp only[hco,List.count_append,List.count_cons,List.count_nil]
  omega
 rw[hco]
 cases q with
 | true =>
  have her3:=her
  rw[hco,q8.er_cons]at her3
  have e5:(qP p.ta (j6 r.env) r.buf p.K r.asks r.waits r.over).er=qP p.ta (j6 r.env) r.buf p.K r.asks r.waits r.over:=congrArg Prod.snd (List.cons.inj her3).1
  have e6:=(List.cons.inj her3).2
  simp (disch:=omega) [zz,zE,zJ,w5,zX,strs,e5,e6,Tryz.f112]
  refine⟨p.core R r,HSub.of_sub ?_,p,hp,rfl⟩
  rw[hco]
  exact(((List.Sublist.refl _).cons _).cons _).cons _
 | false =>
  simp (disch:=omega) [zz,zE,zJ,w5,zX,strs,m1,m1',o0,o0',o1,o1',q0,q0',q1,q1',q2,q2']
  refine qD (R:=fun y H'=>y=.tup []/\z8 R (wY 15 r) H') (p.core R r) [(b4,zE arg),(b3,w5 ⟨[zL,arg],rs⟩),(b2,zJ R)] ?_ rfl (by simp[qI]) (by simp) ?_ ?_
  ·refine List.perm_iff_count.2 fun a=>?_
   simp only[jF.core,hrest,wU,List.count_append,List.count_cons,List.count_nil,ZR,wH,zE,QF,zJ,w5,zX,strs,zL,qP,List.map_cons,List.map_nil]
   omega
  ·rw[her]
   exact q7.args (zf5 R 15 (r:=r) (H:=p.core R r) ⟨p,hp,rfl⟩) (by simp[qM,coC,TV.er,AV.er])
  rintro y H' ⟨rfl,hh⟩ _
  refine⟨H',HSub.of_sub (List.sublist_append_left _ _),?_⟩
  have hhe:=hh.er
  simp (disch:=omega) [zz,Tryz.f112,hhe]
  exact⟨H',HSub.refl _,hh⟩
theorem CH.q {R:Nat} {q q':Option Nat} {S:q8} {t:TdV} {v:AV} (hc:isC t=true) (h:CH R q S t v):CH R q' S t v:=by
 cases t with
 | cmd c=>exact h
 | ans k p=>simp[isC]at hc
 | line s w=>simp[isC]at hc
theorem QG.q {R:Nat} {q q':Option Nat} {S:q8} {ts:List TdV} {vs:List AV} (h:QG R q S ts vs):(∀t∈ts,isC t=true)->QG R q' S ts vs:=by
 induction h with
 | nil=>exact fun _=>.nil
 | cons a _ ih=>exact fun hc=>.cons (a.q (hc _ (by simp))) (ih fun t ht=>hc t (by simp[ht]))
theorem zpf (R:Nat) (pth w rs:Txt) {r:qN} {p:jF} (hp:p.OK R r) (hb:RB r) (hbl:r.buf.length<=65536) (hcm:∀t∈r.todo,isC t=true) :
  q7 Tryz.prog 112 [.av .ptr (.ptr R wH []),.av ZR (zX ⟨[zC,pth,w],rs⟩)] (p.core R r) fun y H'=>y=.tup []/\z8 R (JL pth w { r with seen:=[] }) H':=by
 have her:=(show z8 R r (p.core R r) from⟨p,hp,rfl⟩).er
 refine q7.sub (R:=fun y H'=>y=.tup []/\∃H2,Ab.HSub H2 H'/\z8 R (JL pth w { r with seen:=[] }) H2) ?_ fun y H' ⟨h1,H2,h2,h3⟩ _=>⟨H2,h2,h1,h3⟩
 obtain⟨rest,hrest⟩:∃rest,rest=wU p r:=⟨_,rfl⟩
 have hco:=jO p R r
 rw[<-hrest]at hco
 rw[hco]
 refine zov Tryz.func112 zct fun imm0 w0=>?_
 (simp (maxSteps:=2000000) (disch:=first|omega|assumption) [zz,-List.reduceReplicate,zX,strs,zC])
 intro b2 m1 m2 b3 o0 o1 o2 b4 q0 q1 q2 q3
 have sy:∀ {a b:Nat},¬a=b->¬b=a:=fun h e=>h e.symm
 have m1':=sy m1;have o0':=sy o0;have o1':=sy o1;have q0':=sy q0;have q1':=sy q1;have q2':=sy q2
 simp (disch:=omega) [zz,qP,m1,m1',o0,o0',o1,o1',q0,q0',q1,q1',q2,q2']
 refine zcv (uF r.buf hbl) ?_
 simp (disch:=omega) [zz,qP,m1,m1',o0,o0',o1,o1',q0,q0',q1,q1',q2,q2']
 refine kI.ofK [0,1,2,3,4,5,6,7] [0,1,2,3,4,5] [b2,b3,b4] (by kernel_rfl) ?_
 simp (disch:=omega) [zz,zJ,m1,m1',o0,o0',o1,o1',q0,q0',q1,q1',q2,q2']
 (repeat with_reducible refine om ?_)
 intro Q f1 f2 f3 f4 f5
 have f1':=sy f1;have f2':=sy f2;have f3':=sy f3;have f4':=sy f4
 simp (disch:=omega) [zz,V3,zJ,f1,f1',f2,f2',f3,f3',f4,f4',m1,m1',o0,o0',o1,o1',q0,q0',q1,q1',q2,q2']
 (repeat with_reducible refine om ?_)
 obtain⟨p2,hp2e⟩:∃p2:jF,p2={ p with q:=some Q,QH:=[(Q,.map 9 4 (uX []))] }:=⟨_,rfl⟩
 have hp2:p2.OK R { r with seen:=[] }:=by
  rw[hp2e]
  exact⟨hp.todo,.inr ⟨Q,rfl,rfl⟩,hp.box,hp.tds.q hcm⟩
 have hb2:RB { r with seen:=[] }:=⟨hb.buf,hb.todo,hb.dat,hb.nk⟩
 have hscan:=ziM R Q pth w hp2 (by rw[hp2e]) hb2 (by simp)
 have her2:=(show z8 R { r with seen:=[] } (p2.core R { r with seen:=[] }) from⟨p2,hp2,rfl⟩).er
 refine qD (R:=fun y H'=>y=.tup []/\z8 R (JL pth w { r with seen:=[] }) H') (p2.core R { r with seen:=[] }) ([(b4,zE pth),(b3,w5 ⟨[zC,pth,w],rs⟩),(b2,zJ R)]++p.QH) ?_ rfl (by simp[qI]) (by simp) ?_ ?_
 ·refine List.perm_iff_count.2 fun a=>?_
  simp only[hp2e,jF.core,uX,hrest,wU,List.count_append,List.count_cons,List.count_nil,ZR,wH,zE,QF,zJ,w5,zX,strs,zC,qP,List.map_cons,List.map_nil]
  omega
 ·rw[her2]
  simpa[TV.er,AV.er]using hscan
 rintro y H' ⟨rfl,hh⟩ _
 refine⟨H',HSub.of_sub (List.sublist_append_left _ _),?_⟩
 have hhe:=hh.er
 simp (disch:=omega) [zz,Tryz.f112,hhe]
 exact⟨H',HSub.refl _,hh⟩
inductive OKC:CmdV->Prop
 | read (p rs):OKC ⟨[qW,p],rs⟩
 | try_ (p rs):OKC ⟨[jD,p],rs⟩
 | write (p rs):OKC ⟨[qV,p],rs⟩
 | scan (p w rs):OKC ⟨[zC,p,w],rs⟩
 | env (a rs):OKC ⟨[jL,a],rs⟩
 | need (a rs):OKC ⟨[zL,a],rs⟩
 | keep (a rs):OKC ⟨[zS,a],rs⟩
 | sort (rs):OKC ⟨[zR],rs⟩
 | uniq (rs):OKC ⟨[zW],rs⟩
 | upper (rs):OKC ⟨[qY],rs⟩
 | count (rs):OKC ⟨[z7],rs⟩
 | fail (rs):OKC ⟨[zZ],rs⟩
 | text (rs):OKC ⟨[zH],rs⟩
theorem zdX (w:Txt):(kG w).1=0\/((kG w).1=2/\(kG w).2=true/\(w=qW\/w=jD\/w=qV))\/((kG w).1=3/\(kG w).2=true/\w=zC)\/((kG w).1=2/\(kG w).2=false/\(w=jL\/w=zS\/w=zL))\/((kG w).1=1/\(kG w).2=false/\(w=zR\/w=zW\/w=qY\/w=z7\/w=zZ)):=by
 unfold kG
 by_cases a:w=qW\/w=jD\/w=qV
 ·rw[if_pos a];exact .inr (.inl ⟨rfl,rfl,a⟩)
 rw[if_neg a]
 by_cases b:w=zC
 ·rw[if_pos b];exact .inr (.inr (.inl ⟨rfl,rfl,b⟩))
 rw[if_neg b]
 by_cases c:w=jL\/w=zS\/w=zL
 ·rw[if_pos c];exact .inr (.inr (.inr (.inl ⟨rfl,rfl,c⟩)))
 rw[if_neg c]
 by_cases d:w=zR\/w=zW\/w=qY\/w=z7\/w=zZ
 ·rw[if_pos d];exact .inr (.inr (.inr (.inr ⟨rfl,rfl,d⟩)))
 ·rw[if_neg d];exact .inl rfl
theorem zly {s:Txt} {c:CmdV} (h:JF s=some (some c)):OKC c/\c.rest.length<=s.length/\(∀w∈c.words,w.length<=s.length)/\(∀p w rs,c=⟨[zC,p,w],rs⟩->jQ p=true)/\∀p rs,c=⟨[qW,p],rs⟩\/c=⟨[jD,p],rs⟩\/c=⟨[qV,p],rs⟩->jQ p=true:=by
 unfold JF at h
 have heach:∀w∈z6 s,w.length<=s.length:=fun w hw=>by
  have:=(ZZ hw).2;simpa using this
 cases hw:z6 s with
 | nil=>rw[hw]at h;simp at h
 | cons w ws =>
  rw[hw]at h heach
  simp only at h
  split at h
  ·simp at h
  split at h
  ·rename_i ht
   simp only[Option.some.injEq]at h
   subst h;subst ht
   refine⟨.text _,by simp only[List.length_drop];omega,fun x hx=>?_,fun p w rs e=>?_,fun p rs e=>?_⟩
   ·simp only[List.mem_singleton]at hx;subst hx;exact heach _ (by simp)
   ·simp at e
   ·simp at e
  split at h
  ·simp at h
  ·rename_i ht hn
   simp only[Option.some.injEq]at h
   subst h
   simp only[not_or,Classical.not_not,not_and]at hn
   obtain⟨h1,h2,h3⟩:=hn
   refine⟨?_,by simp,heach,?_⟩
   ·rcases zdX w with h4|⟨h4,_,h5⟩|⟨h4,_,h5⟩|⟨h4,_,h5⟩|⟨h4,_,h5⟩
    ·exact absurd h4 h2
    ·have hl:ws.length=1:=by omega
     obtain⟨p,rfl⟩:=List.length_eq_one_iff.1 hl
     rcases h5 with rfl|rfl|rfl
     ·exact .read _ _
     ·exact .try_ _ _
     ·exact .write _ _
    ·have hl:ws.length=2:=by omega
     obtain⟨p,q,rfl⟩:∃p q,ws=[p,q]:=by
      match ws,hl with
      | [p,q],_=>exact⟨p,q,rfl⟩
     subst h5
     exact .scan _ _ _
    ·have hl:ws.length=1:=by omega
     obtain⟨p,rfl⟩:=List.length_eq_one_iff.1 hl
     rcases h5 with rfl|rfl|rfl
     ·exact .env _ _
     ·exact .keep _ _
     ·exact .need _ _
    ·have hl:ws.length=0:=by omega
     obtain rfl:=List.length_eq_zero_iff.1 hl
     rcases h5 with rfl|rfl|rfl|rfl|rfl
     ·exact .sort _
     ·exact .uniq _
     ·exact .upper _
     ·exact .count _
     ·exact .fail _
   ·have hmay:∀p ps,ws=p::ps->(kG w).2=true->jQ p=true:=by
     rintro p ps rfl ht2
     have:=h3 ht2
     simpa using this
    refine⟨fun p q rs e=>?_,fun p rs e=>?_⟩
    ·have e1:=congrArg CmdV.words e
     simp only[List.cons.injEq]at e1
     obtain⟨rfl,rfl⟩:=e1
     exact hmay _ _ rfl (by decide)
    ·rcases e with e|e|e <;>
     ·have e1:=congrArg CmdV.words e
      simp only[List.cons.injEq]at e1
      obtain⟨rfl,rfl⟩:=e1
      exact hmay _ _ rfl (by decide)
theorem doH (R:Nat) {c:CmdV} (hc:OKC c) (h1:c.rest.length<=1000000) (h2:∀w∈c.words,w.length<=1000000) {r:qN} {p:jF} (hp:p.OK R r) (hb:RB r) (hbl:r.buf.length<=65536) (hcm:∀t∈r.todo,isC t=true) (hen:r.env.length<=1000000000) (hev:∀x∈r.env,x.2.length<=1000000000000000) :
  q7 Tryz.prog 112 [.av .ptr (.ptr R wH []),.av ZR (zX c)] (p.core R r) fun y H'=>y=.tup []/\z8 R (doR c r) H':=by
 cases hc with
 | read q rs =>
  rw[show doR ⟨[qW,q],rs⟩ r=QT q (.there .add) r by simp[doR]]
  exact zp9 R q rs hp hb hbl
 | try_ q rs =>
  rw[show doR ⟨[jD,q],rs⟩ r=QT q .tr r by simp[doR,qW,jD]]
  exact zrs R q rs hp hb hbl
 | write q rs =>
  rw[show doR ⟨[qV,q],rs⟩ r={ r with over:=⟨2,q,r.buf,0⟩,buf:=[] } by simp[doR,qW,jD,qV,zC,zH,jL]]
  exact zn9 R q rs hp hb hbl
 | scan q w rs =>
  rw[show doR ⟨[zC,q,w],rs⟩ r=JL q w { r with seen:=[] } by simp[doR,qW,jD,zC]]
  exact zpf R q w rs hp hb hbl hcm
 | env a rs =>
  rw[show doR ⟨[jL,a],rs⟩ r=(match r.env.find? (fun x=>decide (x.1=a))with|some x=>yS x.2 r|none=>wY 10 r) by simp[doR,qW,jD,zC,zH,jL]<;>rfl]
  exact zrO R a rs hp hb hbl hen hev
 | need a rs =>
  rw[show doR ⟨[zL,a],rs⟩ r=zgL a r by simp[doR,zgL,qW,jD,zC,zH,jL,qV,zL]]
  exact zqq R a rs hp hb hbl (h2 a (by simp))
 | keep a rs =>
  rw[show doR ⟨[zS,a],rs⟩ r=wV zS a r by simp[doR,qW,jD,zC,zH,jL,qV,zL,zZ,zS]]
  exact zor R zS a rs hp hb hbl (by simp)
 | sort rs =>
  rw[show doR ⟨[zR],rs⟩ r=wV zR [] r by simp[doR,qW,jD,zC,zH,jL,qV,zL,zZ,zR]]
  exact pN R zR rs hp hb hbl (by simp)
 | uniq rs =>
  rw[show doR ⟨[zW],rs⟩ r=wV zW [] r by simp[doR,qW,jD,zC,zH,jL,qV,zL,zZ,zW]]
  exact pN R zW rs hp hb hbl (by simp)
 | upper rs =>
  rw[show doR ⟨[qY],rs⟩ r=wV qY [] r by simp[doR,qW,jD,zC,zH,jL,qV,zL,zZ,qY]]
  exact pN R qY rs hp hb hbl (by simp)
 | count rs =>
  rw[show doR ⟨[z7],rs⟩ r=wV z7 [] r by simp[doR,qW,jD,zC,zH,jL,qV,zL,zZ,z7]]
  exact pN R z7 rs hp hb hbl (by simp)
 | fail rs =>
  rw[show doR ⟨[zZ],rs⟩ r=wY 15 r by simp[doR,qW,jD,zC,zH,jL,qV,zL,zZ]]
  exact zqi R rs hp hb hbl
 | text rs =>
  rw[show doR ⟨[zH],rs⟩ r=yS (rs++[10]) r by simp[doR,qW,jD,zC,zH]]
  exact zpz R rs hp hb hbl h1
def okt:TdV->Prop
 | .cmd c=>OKC c/\c.rest.length<=1000000/\∀w∈c.words,w.length<=1000000
 | .line s _=>s.length<=1000000
 | .ans _ _=>True
def Fit (r r':qN):Prop:=(∀k∈r.known,k.is=true->k.data.length<=1000000)->∀t∈r'.todo,t∈r.todo\/okt t
theorem Fit.same {r r':qN} (h:r'.todo=r.todo):Fit r r':=fun _ t ht=>.inl (h▸ht)
theorem Fit.fail (e:Int) (r:qN):Fit r (wY e r):=.same rfl
theorem Fit.add (s:Txt) (r:qN):Fit r (yS s r):=by unfold yS;split<;>exact .same rfl
theorem Fit.lines (l:List Txt) (r:qN):Fit r (wB l r):=fun hk t ht=>Fit.add _ { r with buf:=[] } hk t ht
theorem Fit.co (k:CoV) (x:KnV) (r:qN) (hx:x.is=true->x.data.length<=1000000):Fit r (coR k x r):=by
 cases hi:x.is with
 | false =>
  cases k with
  | tr=>rw[show coR .tr x r=r by simp[coR,hi]];exact .same rfl
  | there t=>rw[show coR (.there t) x r=wY 10 r by simp[coR,hi]];exact .fail _ _
 | true =>
  cases k with
  | tr=>rw[show coR .tr x r=yS x.data r by simp[coR,hi]];exact .add _ _
  | there t=>cases t with
   | add=>rw[show coR (.there .add) x r=yS x.data r by simp[coR,hi,thR]];exact .add _ _
   | scan w =>
    rw[show coR (.there (.scan w)) x r={ r with todo:=r.todo++(qZ x.data).reverse.map fun s=>.line s w } by simp[coR,hi,thR]]
    intro _ t ht
    rcases List.mem_append.1 ht with ht|ht
    ·exact .inl ht
    ·obtain⟨s,hs,rfl⟩:=List.mem_map.1 ht
     right
     have:=x5 (List.mem_reverse.1 hs)
     have:=hx hi
     show s.length<=1000000
     omega
theorem Fit.ask (p:Txt) (k:CoV) (r:qN):Fit r (QT p k r):=by
 intro hk
 unfold QT
 split
 ·rename_i x hx
  exact Fit.co k x r (hk x (DJ hx).1) hk
 ·split
  ·exact Fit.fail _ _ hk
  ·intro t ht
   rcases List.mem_append.1 ht with ht|ht
   ·exact .inl ht
   ·rw[List.mem_singleton.1 ht];exact .inr trivial
theorem Fit.scan (p w:Txt) (r:qN):Fit r (JL p w r):=fun hk t ht=>Fit.ask p (.there (.scan w)) { r with seen:=r.seen++[p] } hk t ht
theorem Fit.line (s w:Txt) (r:qN):Fit r (J1 s w r):=by
 unfold J1
 split
 ·split
  ·exact .add _ _
  split
  ·exact .same rfl
  ·exact .scan _ _ _
 ·exact .add _ _
theorem Fit.turn (n a:Txt) (r:qN):Fit r (wV n a r):=by
 unfold wV
 split
 ·exact .lines _ _
 split
 ·exact .lines _ _
 split
 ·exact .same rfl
 split
 ·exact .same rfl
 split
 ·exact .lines _ _
 ·exact .same rfl
theorem Fit.cmd (c:CmdV) (r:qN):Fit r (doR c r):=by
 unfold doR
 simp only
 split
 ·exact .ask _ _ _
 split
 ·exact .ask _ _ _
 split
 ·exact fun hk t ht=>Fit.scan _ _ { r with seen:=[] } hk t ht
 split
 ·exact .add _ _
 split
 ·split
  ·exact .add _ _
  ·exact .fail _ _
 split
 ·exact .same rfl
 split
 ·split
  ·exact .same rfl
  ·exact .fail _ _
 split
 ·exact .fail _ _
 ·exact .turn _ _ _
theorem zl1 {r:qN} (hk:∀k∈r.known,k.is=true->k.data.length<=1000000) (ho:∀t∈r.todo,okt t):∀t∈(Z1 r).todo,okt t:=by
 rcases List.eq_nil_or_concat r.todo with ht|⟨l,t,ht⟩
 ·rw[YP ht];exact ho
 ·rw[List.concat_eq_append]at ht
  rw[YX ht]
  have hl:∀x∈l,okt x:=fun x hx=>ho x (by rw[ht];simp[hx])
  have go:∀ {r'},Fit { r with todo:=l } r'->∀x∈r'.todo,okt x:=fun h x hx=>(h hk x hx).elim (hl x) id
  cases t with
  | cmd c=>exact go (.cmd _ _)
  | line s w=>exact go (.line _ _ _)
  | ans k p =>
   refine go (.co _ _ _ ?_)
   cases hf:jR r.known p with
   | none=>simp[hf,kn0]
   | some x=>simpa[hf]using hk x (DJ hf).1
structure wF (r:qN):Prop where
 inv:W4 r
 ok:∀t∈r.todo,okt t
 en:r.env.length<=1000000000
 ev:∀x∈r.env,x.2.length<=1000000000000000
theorem W4.s {r:qN} (h:W4 r):r.known.length<=500/\(∀k∈r.known,k.is=true->k.data.length<=1000000)/\r.buf.length<=65536/\r.todo.length<=700000000:=by
 rcases h with⟨h,_⟩|⟨l,k,p,e,h,_⟩
 ·exact⟨h.nk,h.dat,h.buf,by have:=h.len;omega⟩
 ·refine⟨h.nk,h.dat,h.buf,?_⟩
  have:=h.len
  rw[e]
  simp only[List.length_append,List.length_cons,List.length_nil]at this |-
  omega
theorem wF.step {r:qN} (h:wF r) (hs:w8 r=false):wF (Z1 r):=by
 obtain⟨h1,_,h3⟩:=DY h.inv hs
 have he:=(ziX r).en
 exact⟨h1,zl1 h.inv.s.2.1 h.ok,by rw[he];exact h.en,by rw[he];exact h.ev⟩
theorem wF.runN:∀(n:Nat) {r r':qN},runN n r=some r'->wF r->wF r'
 | 0,r,r',h,_=>by cases h
 | n+1,r,r',h,hg=>by
  rw[Go.Proofs.YtfkcpballfhddaaGreatDoor.runN]at h
  by_cases hs:w8 r=true
  ·rw[if_pos hs]at h;cases h;exact hg
  ·rw[if_neg hs]at h
   exact wF.runN n h (hg.step (by simpa using hs))
theorem wF.settle {r:qN} (h:wF r):wF (kZ r):=wF.runN _ (yZ h.inv).1 h
theorem zhy (c:CmdV):(zX c).er=zX c:=by simp[zX,AV.er,AV.ers,AV.ers_eq,strs,Function.comp_def]
theorem zp4 (R br bc:Nat) {c:CmdV} (hc:OKC c) (h1:c.rest.length<=1000000) (h2:∀w∈c.words,w.length<=1000000) {r:qN} {p:jF} (hp:p.OK R r) (hbr:(br,zJ R)∈p.S) (hbc:(bc,w5 c)∈p.S) (hb:RB r) (hbl:r.buf.length<=65536) (hcm:∀t∈r.todo,isC t=true) (hen:r.env.length<=1000000000) (hev:∀x∈r.env,x.2.length<=1000000000000000) :
  q7 Tryz.prog 111 [.av .ptr (.ptr br .ptr []),.av .ptr (.ptr bc ZR [])] (p.core R r) fun y H'=>y=.tup []/\z8 R (doR c r) H':=by
 have hH:z8 R r (p.core R r):=⟨p,hp,rfl⟩
 have hdo:=doH R hc h1 h2 hp hb hbl hcm hen hev
 have her:=hH.er
 obtain⟨H,hHe⟩:∃H,H=p.core R r:=⟨_,rfl⟩
 have hm:(br,zJ R)∈H:=hHe▸jF.memS hbr
 have hm2:(bc,w5 c)∈H:=hHe▸jF.memS hbc
 rw[<-hHe]at hH her hdo |-
 refine q7.nodup fun hnd=>?_
 have hne:br≠bc:=XB hnd hm hm2 (by simp[zJ,w5])
 have hne':¬bc=br:=fun e=>hne e.symm
 obtain⟨rest,hpm⟩:=znx hm hm2 hne
 refine q7.sub (R:=fun y H'=>y=.tup []/\∃H2,Ab.HSub H2 H'/\z8 R (doR c r) H2) ?_ fun y H' ⟨h1,H2,h2,h3⟩ _=>⟨H2,h2,h1,h3⟩
 refine q7.perm hpm ?_
 refine zov Tryz.func111 cf0 fun imm0 w0=>?_
 simp (disch:=omega) [zz,zJ,w5,hne,hne']
 refine qD (R:=fun y H'=>y=.tup []/\z8 R (doR c r) H') H [] (by simpa[zJ,w5]using hpm.symm) rfl (by simp[qI]) (by simp) ?_ ?_
 ·rw[her]
  simpa[TV.er,AV.er,zhy]using hdo
 rintro y H' ⟨rfl,hh⟩ _
 refine⟨H',by simpa using HSub.refl _,?_⟩
 have hhe:=hh.er
 simp (disch:=omega) [zz,Tryz.f111,hhe]
 exact⟨H',HSub.refl _,hh⟩
theorem zsL (R:Nat) {t:TdV} {v:AV} {r:qN} {p:jF} (hp:p.OK R r) (ht:CH R p.q p.S t v) (hot:okt t) (hb:RB r) (hbl:r.buf.length<=65536) (hcm:isC t=true->∀t∈r.todo,isC t=true) (hen:r.env.length<=1000000000) (hev:∀x∈r.env,x.2.length<=1000000000000000) :
  VC1 v [] (p.core R r) fun y H'=>y=.tup []/\z8 R (tdR t r) H':=by
 cases t with
 | cmd c =>
  obtain⟨br,bc,rfl,h1,h2⟩:=ht
  obtain⟨o1,o2,o3⟩:=hot
  exact⟨[.av .ptr (.ptr br .ptr []),.av .ptr (.ptr bc ZR [])],rfl,by simp,zp4 R br bc o1 o2 o3 hp h1 h2 hb hbl (hcm rfl) hen hev⟩
 | ans k pth =>
  obtain⟨bt,br,bp,kv,rfl,h1,h2,h3,h4⟩:=ht
  exact⟨[.av .ptr (.ptr bt .func []),.av .ptr (.ptr br .ptr []),.av .ptr (.ptr bp .str [])],rfl,by simp,zpk R bt br bp k kv pth hp h1 h2 h3 h4 hb⟩
 | line s w =>
  obtain⟨Q,bs,bw,br,bm,hq,rfl,hn,h1,h2,h3,h4⟩:=ht
  exact⟨[.av .ptr (.ptr bs .str []),.av .ptr (.ptr bw .str []),.av .ptr (.ptr br .ptr []),.av .ptr (.ptr bm XZ [])],rfl,by simp,zmC R Q bs bw br bm s w hp hq hn h1 h2 h3 h4 hot hb⟩
theorem zqz {c:Ctx} {code:Code} {K:Exit->St->Prop} {s:St} (h:s.H.keys.Nodup->AT c code K s):AT c code K s:=fun a w g β hS=>h hS.rep.nodup a w g β hS
abbrev zkc:Cfg:=⟨fun _=>false,fun n=>n==1000004||n==51⟩
theorem zcE (R:Nat) {r:qN} {H:q8} (hH:z8 R r H) (hg:wF r) :
  q7 Tryz.prog 124 [.av .ptr (.ptr R wH [])] H fun y H'=>y=.tup []/\z8 R (kZ r) H':=by
 have hsp:=(yZ hg.inv).1
 obtain⟨rf,hrf⟩:∃rf,rf=kZ r:=⟨_,rfl⟩
 rw[<-hrf]at hsp |-
 have her:=hH.er
 refine q7.sub (R:=fun y H'=>y=.tup []/\∃H2,Ab.HSub H2 H'/\z8 R rf H2) ?_ fun y H' ⟨h1,H2,h2,h3⟩ _=>⟨H2,h2,h1,h3⟩
 refine zov Tryz.func124 zkc fun imm0 w0=>?_
 simp (disch:=omega) [zz]
 refine AT.loop' (α:=Nat × qN × q8) (fun x=>St.of [(0,.av .ptr (.ptr R wH []))] [] (fun _=>0) x.2.2)
  (fun x=>runN x.1 x.2.1=some rf/\wF x.2.1/\z8 R x.2.1 x.2.2) (fun x=>x.1) (MR r+2,r,H) ?_ ?_ ?_
 ·apply Le.of<;>simp[zA,qF]
 ·exact⟨hsp,hg,hH⟩
 rintro⟨n,ra,H1⟩ ⟨hn,hg1,hH1⟩ KL hN hE
 simp only at hn hg1 hH1 hN
 obtain⟨p,hp,rfl⟩:=hH1
 have hera:=(show z8 R ra (p.core R ra) from⟨p,hp,rfl⟩).er
 obtain⟨rest,hrest⟩:∃rest,rest=wU p ra:=⟨_,rfl⟩
 have hco:=jO p R ra
 rw[<-hrest]at hco
 have her3:=hera
 rw[hco,q8.er_cons]at her3
 have e6:=(List.cons.inj her3).2
 obtain⟨_,e2⟩:=hp.todo.er hp.tds
 have e3:=j8 ra.env
 cases n with
 | zero=>cases hn
 | succ n =>
 rw[Go.Proofs.YtfkcpballfhddaaGreatDoor.runN]at hn
 by_cases hs:w8 ra=true
 ·rw[if_pos hs]at hn
  have hn':=Option.some.inj hn
  subst hn'
  rw[hco]
  by_cases hk:ra.over.kind=0
  ·have hw:ra.waits=true:=by
    unfold w8 at hs;simpa[hk]using hs
   refine zrd zkc ?_
   simp (disch:=omega) [zz,qP,jX,hk,hw]
   refine hE _ _ (by simp) ?_
   simp (disch:=omega) [zz,e2,e3,e6,Tryz.f124]
   refine⟨p.core R ra,?_,p,hp,rfl⟩
   rw[hco]
   simp only[qP,jX,hk,hw]
   exact HSub.refl _
  ·refine zrd zkc ?_
   simp (disch:=omega) [zz,qP,jX,hk]
   refine hE _ _ (by simp) ?_
   simp (disch:=omega) [zz,e2,e3,e6,Tryz.f124]
   refine⟨p.core R ra,?_,p,hp,rfl⟩
   rw[hco]
   simp only[qP,jX]
   exact HSub.refl _
 ·rw[if_neg hs]at hn
  obtain⟨hk,hw⟩:=zd6 hs
  have hlen:=hp.tds.len
  have hsb:=hg1.inv.s
  have endc:∀ta':AV,p.ta=ta'->ra.todo=[]->z8 R rf ((R,qP ta' (j6 ra.env) ra.buf p.K ra.asks ra.waits ⟨3,[],[],0⟩)::rest):=by
   intro ta' hta ht
   have h1:Z1 ra={ ra with over:=⟨3,[],[],0⟩ }:=YP ht
   have h2:rf=Z1 ra:=by
    have hst:w8 (Z1 ra)=true:=by rw[h1];simp[w8]
    cases n with
    | zero=>cases hn
    | succ n=>rw[Go.Proofs.YtfkcpballfhddaaGreatDoor.runN,if_pos hst]at hn;exact(Option.some.inj hn).symm
   rw[h2,h1]
   refine⟨p,⟨hp.todo,hp.seen,hp.box,hp.tds⟩,?_⟩
   rw[jO,hrest,<-hta];rfl
  rcases hp.todo with⟨hfs,hta,hTA⟩|⟨T,cap,j,hj,hta,hcap,hTA⟩
  ·have ht:ra.todo=[]:=List.length_eq_zero_iff.1 (by rw[hlen,hfs];rfl)
   have hend:=endc _ rfl ht
   rw[hco]
   rw[hta]at hend e2 |-
   refine zrd zkc ?_
   simp (disch:=omega) [zz,qP,jX,hk,hw]
   refine hE _ _ (by simp) ?_
   simp (disch:=omega) [zz,e3,e6,Tryz.f124]
   refine⟨_,?_,hend⟩
   simp only[qP,jX,hw]
   exact HSub.refl _
  ·by_cases hz:p.fs.length=0
   ·have ht:ra.todo=[]:=List.length_eq_zero_iff.1 (by rw[hlen,hz])
    have hend:=endc _ rfl ht
    rw[hco]
    rw[hta,hz]at hend e2 |-
    refine zrd zkc ?_
    simp (disch:=omega) [zz,qP,jX,hk,hw]
    refine hE _ _ (by simp) ?_
    simp (disch:=omega) [zz,e3,e6,Tryz.f124]
    refine⟨_,?_,hend⟩
    simp only[qP,jX,hw]
    exact HSub.refl _
   ·rcases List.eq_nil_or_concat ra.todo with ht|⟨l,t,ht⟩
    ·rw[ht]at hlen;exact absurd hlen.symm hz
    rw[List.concat_eq_append]at ht
    have htds:=hp.tds
    rw[ht]at htds
    obtain⟨us,v,hfs,htl,htv⟩:=QG.snoc htds
    have hstep:=YX ht
    obtain⟨rest2,hrest2⟩:∃rest2:q8,rest2=p.QH++p.S:=⟨_,rfl⟩
    have hco2:p.core R ra=(R,qP p.ta (j6 ra.env) ra.buf p.K ra.asks ra.waits ra.over)::(p.K,.map 9 68 (knE ra.known))::(T,.var (.arr cap 1) (.agg (us++(v::j))))::rest2:=by
     rw[hrest2];simp only[jF.core,hTA,hfs,List.append_assoc,List.singleton_append,List.cons_append,List.nil_append]
    obtain⟨p1,hp1e⟩:∃p1:jF,p1={ p with fs:=us,ta:=.msl T 1 0 us.length cap,TA:=[(T,.var (.arr cap 1) (.agg (us++(v::j))))] }:=⟨_,rfl⟩
    have hul:p.fs.length=us.length+1:=by rw[hfs];simp
    have hp1:p1.OK R { ra with todo:=l }:=by
     rw[hp1e]
     refine⟨.inr ⟨T,cap,v::j,JK.cons htv.erk hj,rfl,by simp only[List.length_cons];omega,rfl⟩,hp.seen,hp.box,htl⟩
    have hco3:p1.core R { ra with todo:=l }=(R,qP (.msl T 1 0 us.length cap) (j6 ra.env) ra.buf p.K ra.asks ra.waits ra.over)::(p.K,.map 9 68 (knE ra.known))::(T,.var (.arr cap 1) (.agg (us++(v::j))))::rest2:=by
     rw[hrest2,hp1e];simp only[jF.core,List.singleton_append,List.cons_append,List.nil_append]
    have htd:=zsL R hp1 (by rw[hp1e];exact htv) (hg1.ok t (by rw[ht];simp)) ⟨by simp only;omega,by have:=hsb.2.2.2;rw[ht]at this;simp only[List.length_append,List.length_cons,List.length_nil]at this |-;omega,hsb.2.1,by simp only;omega⟩ hsb.2.2.1 ?_ hg1.en hg1.ev
    rotate_left
    ·intro hc
     rcases hg1.inv with⟨h,_⟩|⟨l',k',p',e',h,_⟩
     ·rcases h.pop ht with⟨_,h2,_⟩|⟨h1,_⟩
      ·exact h2
      ·cases t<;>simp[isC,isL]at hc h1
     ·rw[ht]at e'
      obtain⟨_,h6⟩:=List.append_inj' e' rfl
      cases h6
      simp[isC]at hc
    have her2:=(show z8 R { ra with todo:=l } (p1.core R { ra with todo:=l }) from⟨p1,hp1,rfl⟩).er
    rw[hco3]at htd her2
    refine zqz fun hnd=>?_
    rw[hco2]at hnd |-
    simp only[St.of,q8.keys,List.map_cons,List.nodup_cons,List.mem_cons,not_or]at hnd
    obtain⟨⟨n1,n2,_⟩,⟨n3,_⟩,_⟩:=hnd
    have sy:∀ {a b:Nat},¬a=b->¬b=a:=fun h e=>h e.symm
    have n1':=sy n1;have n2':=sy n2;have n3':=sy n3
    have hg:(us++v::j)[us.length]?=some v:=by simp
    have hin:us.length<cap:=by omega
    have hnz:¬(us.length:Int)+1=0:=by omega
    rw[hta,hul]
    refine zrd zkc ?_
    simp (disch:=omega) [zz,qP,jX,hk,hw,n1,n2,n3,n1',n2',n3',hnz,hg,hin]
    refine⟨by omega,?_⟩
    refine kI.ofK [0,1,2,3,4,5,6,7,8,9,10,11,12,13,14] [] [] (by kernel_rfl) ?_
    simp (disch:=omega) [zz,n1,n2,n3,n1',n2',n3']
    (repeat with_reducible refine om ?_)
    refine ZB (R:=fun y H'=>y=.tup []/\z8 R (tdR t { ra with todo:=l }) H') ((R,qP (.msl T 1 0 us.length cap) (j6 ra.env) ra.buf p.K ra.asks ra.waits ra.over)::(p.K,.map 9 68 (knE ra.known))::(T,.var (.arr cap 1) (.agg (us++(v::j))))::rest2) [] ?_ her2 (by simp[qI]) (by simpa using htd) ?_
    ·rw[List.append_nil]
     simp only[qP,jX,hk,hw]
     exact List.Perm.refl _
    rintro y H' ⟨rfl,hh⟩ _
    refine⟨H',by simpa using HSub.refl _,?_⟩
    rw[<-hstep]at hh
    simp (disch:=omega) [zz]
    refine hN _ (n,Z1 ra,H') ?_ ⟨hn,hg1.step (by simpa using hs),hh⟩ (by simp only;omega)
    apply Le.of<;>simp[zA,qF]
end
end Go.Proofs.YtfkcpballfhddaaGreatDoor
