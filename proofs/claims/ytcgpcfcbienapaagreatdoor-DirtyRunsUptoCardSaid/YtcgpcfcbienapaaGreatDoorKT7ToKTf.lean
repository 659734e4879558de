/- The buffer is turned into another one: as a tool. No condition beyond each theorem's own. -/
import Derived.Test.YtcgpcfcbienapaaGreatDoorKT6
import Derived.Test.YtcgpcfcbienapaaGreatDoorGB4ToKT3
import Derived.Test.YtcgpcfcbienapaaGreatDoorKM
import Derived.Test.YtcgpcfcbienapaaGreatDoorK20ToBX1
set_option linter.unusedSimpArgs false
set_option linter.unusedVariables false
set_option linter.unusedSectionVars false
section
set_option maxRecDepth 100000
namespace Go.Proofs.YtcgpcfcbienapaaGreatDoor
open Go Go.Ab
open Classical
variable [Sel] [SelPow] [SelMax]
theorem JE (x:Txt) (b:List Txt):jF (x::b)=x++[10]++jF b:=by simp[jF]
theorem zaw {a b:List Txt} (h:a.Sublist b):(jF a).length≤(jF b).length:=by
 induction h with
 | slnil=>simp[jF]
 | cons x _ ih=>rw[JE];simp only[List.length_append];omega
 | cons_cons x _ ih=>rw[JE,JE];simp only[List.length_append];omega
theorem zf0 {a b:List Txt} (h:a.Perm b):(jF a).length=(jF b).length:=(h.flatMap_right _).length_eq
theorem zaN:∀l:List Txt,(kF l).Sublist l
 | []=>.slnil
 | [x]=>by simp[kF]
 | x::y::r=>by
  have:=zaN (y::r)
  unfold kF
  split
  ·exact this.cons _
  ·exact this.cons_cons _
theorem GO (c:UInt8):∀l,(jF (qT c l)).length=l.length+1
 | []=>by simp[qT,jF]
 | b::l=>by
  have ih:=GO c l
  have hne:=JJ c l
  unfold qT
  split
  ·rw[JE];simp only[List.length_append,List.length_cons,List.length_nil,ih];omega
  ·cases hs:qT c l with
   | nil=>exact absurd hs hne
   | cons y q =>
    rw[hs,JE]at ih
    rw[JE]
    simp only[List.length_append,List.length_cons,List.length_nil]at ih ⊢
    omega
theorem zdT (l:Txt):(jF (z7 l)).length≤l.length+1:=by
 unfold z7
 split
 ·simp[jF]
 ·rw[GO]
  have:=XY l [10]
  omega
theorem X7 (l:List Txt) (ta ea:AV) (K:Nat) (r:zCT):X9 (jF l) ta ea K r.asks r.waits r.over=qW ta ea (kS l r).buf K r.asks r.waits (kS l r).over:=by
 unfold X9 kS wW
 simp only[List.length_nil,Nat.zero_add]
 have:(l.flatMap (·++[10]))=jF l:=rfl
 rw[this]
 split<;>simp[wC]
theorem XN (R:Nat) {args:List TV} {r:zCT} {p:zY} (hp:p.OK R r) (rowH:q8) (obj:HObj) (r':zCT) (hr:kM r r') (ho:obj=qW p.ta (zS r.env) r'.buf p.K r.asks r.waits r'.over)
  (hc:q7 Tryz.prog 107 args ((R,qW p.ta (zS r.env) r.buf p.K r.asks r.waits r.over)::rowH) fun y H'=>y=.tup []∧H'=[(R,obj)]) :
  q7 Tryz.prog 107 args (p.core R r++rowH) fun y H'=>y=.tup []∧z6 R r' H':=by
 refine q7.use (rest:=(p.K,.map 9 33 (knE r.known))::(p.TA++(p.QH++p.S))) ?_ hc ?_
 ·refine List.perm_iff_count.2 fun a=>?_
  simp only[zY.core,List.count_append,List.count_cons]
  omega
 rintro x H' ⟨rfl,rfl⟩ _
 refine⟨_,HSub.refl _,rfl,p,⟨hp.todo,by rw[hr.se];exact hp.seen,hp.box,by rw[hr.td];exact hp.tds⟩,?_⟩
 rw[ho]
 simp only[zY.core,hr.en,hr.ak,hr.wa,hr.kn,List.cons_append,List.nil_append]
theorem zn1 (R:Nat) (name arg:Txt) {r:zCT} {p:zY} (hp:p.OK R r) (v:AV) (rowH:q8) (hrow:KF (z7 r.buf) v rowH) (hb:r.buf.length≤65536) (hnm:name=wP∨name=y4∨name=kV∨name=kY∨name=wQ) :
  q7 Tryz.prog 107 [.av .ptr (.ptr R kQ []),.av .str (.s name),.av .str (.s arg),.av (.slice 9) v] (p.core R r++rowH) fun y H'=>y=.tup []∧z6 R (wK name arg r) H':=by
 obtain⟨_,e2⟩:=hp.todo.er hp.tds
 have e3:=zV r.env
 have hj:=zdT r.buf
 have hn:=ZE r.buf
 have hst:=kM.turn name arg r hb
 rcases hnm with rfl|rfl|rfl|rfl|rfl
 ·have e:wK wP arg r=kS (kK (z7 r.buf)) r:=by simp[wK]
  rw[e]at hst ⊢
  refine XN R hp rowH _ _ hst (X7 _ _ _ _ r) (zhh R arg _ v rowH hrow (by omega) _ _ _ _ _ _ _ e2 e3 ?_)
  rw[zf0 (W0 _)];omega
 ·have e:wK y4 arg r=kS (kF (z7 r.buf)) r:=by simp[wK,wP,y4]
  rw[e]at hst ⊢
  refine XN R hp rowH _ _ hst (X7 _ _ _ _ r) (zgx R arg _ v rowH hrow (by omega) _ _ _ _ _ _ _ e2 e3 ?_)
  have:=zaw (zaN (z7 r.buf));omega
 ·have e:wK kV arg r={ r with buf:=r.buf.map upB }:=by simp[wK,wP,y4,kV]
  rw[e]at hst ⊢
  exact XN R hp rowH _ _ hst rfl (zeP R arg _ v rowH hrow _ _ _ (by omega) _ _ _ _ e2 e3)
 ·have e:wK kY arg r={ r with buf:=Lib.itoa (z7 r.buf).length++[10] }:=by simp[wK,wP,y4,kV,kY]
  rw[e]at hst ⊢
  exact XN R hp rowH _ _ hst rfl (zeB R arg _ v rowH hrow (by omega) _ _ _ _ _ _ _ e2 e3)
 ·have e:wK wQ arg r=kS ((z7 r.buf).filter fun s=>Lib.contains s arg) r:=by simp[wK,wP,y4,kV,kY,wQ]
  rw[e]at hst ⊢
  refine XN R hp rowH _ _ hst (X7 _ _ _ _ r) (zht R arg _ v rowH hrow (by omega) (fun x hx=>by have:=W3 hx;omega) _ _ _ _ _ _ _ e2 e3 ?_)
  exact Nat.le_trans (zaw List.filter_sublist) (by omega)
noncomputable def w5 (p:zY) (r:zCT):q8:=(p.K,.map 9 33 (knE r.known))::(p.TA++(p.QH++p.S))
theorem jB (p:zY) (R:Nat) (r:zCT):p.core R r=(R,qW p.ta (zS r.env) r.buf p.K r.asks r.waits r.over)::w5 p r:=rfl
theorem xN (l:Txt) (hl:l.length≤65536):PC Tryz.prog 94 [.av .str (.s l)] (.av (.slice 9) (.sl .no (strs (z7 l)))):=PG l (by omega)
abbrev CV:Cfg:=⟨fun n=>n==2||n==3||n==4,fun n=>n==1000008||n==2000039||n==40||n==1000012||n==2000055||n==56||n==1000019||n==85||n==1000021||n==96||n==1000006||n==31⟩
set_option maxHeartbeats 8000000 in
theorem zkO (R:Nat) (pth rs:Txt) {r:zCT} {p:zY} (hp:p.OK R r) (hb:RB r) (hbl:r.buf.length≤65536) :
  q7 Tryz.prog 66 [.av .ptr (.ptr R kQ []),.av QE (zK ⟨[zZ,pth],rs⟩)] (p.core R r) fun y H'=>y=.tup []∧z6 R (Q6 pth (.there .add) r) H':=by
 have her:=(show z6 R r (p.core R r) from⟨p,hp,rfl⟩).er
 refine q7.sub (R:=fun y H'=>y=.tup []∧∃H2,Ab.HSub H2 H'∧z6 R (Q6 pth (.there .add) r) H2) ?_ fun y H' ⟨h1,H2,h2,h3⟩ _=>⟨H2,h2,h1,h3⟩
 obtain⟨rest,hrest⟩:∃rest,rest=w5 p r:=⟨_,rfl⟩
 have hco:=jB p R r
 rw[←hrest]at hco
 rw[hco]
 refine zov Tryz.func66 CV fun imm0 w0=>?_
 (simp (maxSteps:=2000000) (disch:=first|omega|assumption) [zz,-List.reduceReplicate,zK,strs,zZ])
 intro b2 m1 m2 b3 o0 o1 o2 b4 q0 q1 q2 q3
 have sy:∀ {a b:Nat},¬a=b→¬b=a:=fun h e=>h e.symm
 have m1':=sy m1;have o0':=sy o0;have o1':=sy o1;have q0':=sy q0;have q1':=sy q1;have q2':=sy q2
 simp (disch:=omega) [zz,qW,m1,m1',o0,o0',o1,o1',q0,q0',q1,q1',q2,q2']
 refine zcv (xN r.buf hbl) ?_
 simp (disch:=omega) [zz,qW,m1,m1',o0,o0',o1,o1',q0,q0',q1,q1',q2,q2']
 refine jW.ofK [0,1,2,3,4,5,6] [0,1] [b2,b4] (by kernel_rfl) ?_
 simp (disch:=omega) [zz,zA,m1,m1',o0,o0',o1,o1',q0,q0',q1,q1',q2,q2']
 (repeat with_reducible refine om ?_)
 obtain⟨tv,htv⟩:∃tv:AV,tv=.bm 99 [.ptr R kQ []]:=⟨_,rfl⟩
 obtain⟨H1,hH1⟩:∃H1:q8,H1=(b4,zF pth)::(b3,kJ ⟨[zZ,pth],rs⟩)::(b2,zA R)::(R,qW p.ta (zS r.env) r.buf p.K r.asks r.waits r.over)::rest:=⟨_,rfl⟩
 refine qE (R:=fun y H'=>∃br bt,y=.av .func (.fn 135 [.ptr br .ptr [],.ptr bt .func []])∧H'=[(bt,.var .func tv),(br,zA R)]) [] H1 (by rw[hH1];simp[zF,zA,kJ,zK,strs,zZ,qW]) rfl (by simp[qQ]) (by simp) ?_ ?_
 ·have:=zdh R tv (by rw[htv];rfl) (by rw[htv];rfl)
  rw[←htv]
  simpa[TV.er,AV.er,htv]using this
 rintro y H' ⟨br,bt,rfl,rfl⟩ hnd3
 refine⟨_,HSub.refl _,?_⟩
 rw[hH1]at hnd3 ⊢
 simp only[q8.keys,List.map_append,List.map_cons,List.map_nil,List.cons_append,List.nil_append,List.nodup_cons,List.mem_cons,not_or]at hnd3
 obtain⟨⟨_,g1,g2,g3,_⟩,⟨g4,g5,g6,_⟩,_⟩:=hnd3
 have g1':=sy g1;have g2':=sy g2;have g3':=sy g3;have g4':=sy g4;have g5':=sy g5;have g6':=sy g6
 simp (disch:=omega) [zz,XC,g1,g1',g2,g2',g3,g3',g4,g4',g5,g5',g6,g6',m1,m1',o0,o0',o1,o1',q0,q0',q1,q1',q2,q2',zF,zA]
 (repeat with_reducible refine om ?_)
 obtain⟨p2,hp2e⟩:∃p2:zY,p2={ p with S:=(bt,yE tv)::(br,zA R)::p.S }:=⟨_,rfl⟩
 have hp2:p2.OK R r:=by
  rw[hp2e]
  refine⟨hp.todo,hp.seen,?_,?_⟩
  ·simp only[q8.er_cons,hp.box,yE,zA,HObj.er_var,AV.erk,htv];rfl
  ·exact hp.tds.mono fun z hz=>by simp[hz]
 have hcok:UX R p2.q p2.S (.there .add) (.fn 135 [.ptr br .ptr [],.ptr bt .func []]):=by
  rw[hp2e]
  exact⟨br,bt,tv,rfl,by simp,by simp,htv⟩
 have hask:=zey R pth (.there .add) _ hp2 hcok hb
 have her2:=(show z6 R r (p2.core R r) from⟨p2,hp2,rfl⟩).er
 refine qE (R:=fun y H'=>y=.tup []∧z6 R (Q6 pth (.there .add) r) H') (p2.core R r) [(b4,zF pth),(b3,kJ ⟨[zZ,pth],rs⟩),(b2,zA R)] ?_ rfl (by simp[qQ]) (by simp) ?_ ?_
 ·rw[hp2e]
  refine List.perm_iff_count.2 fun a=>?_
  simp only[zY.core,hrest,w5,List.count_append,List.count_cons,List.count_nil,QE,kQ,zF,yE,zA,kJ,zK,strs,zZ,qW,List.map_cons,List.map_nil]
  omega
 ·rw[her2]
  simpa[TV.er,AV.er]using hask
 rintro y H' ⟨rfl,hh⟩ _
 refine⟨H',HSub.of_sub (List.sublist_append_left _ _),?_⟩
 have hhe:=hh.er
 simp (disch:=omega) [zz,Tryz.f66,hhe]
 exact⟨H',HSub.refl _,hh⟩
set_option maxHeartbeats 8000000 in
theorem zod (R:Nat) (pth rs:Txt) {r:zCT} {p:zY} (hp:p.OK R r) (hb:RB r) (hbl:r.buf.length≤65536) :
  q7 Tryz.prog 66 [.av .ptr (.ptr R kQ []),.av QE (zK ⟨[w8,pth],rs⟩)] (p.core R r) fun y H'=>y=.tup []∧z6 R (Q6 pth .tr r) H':=by
 have her:=(show z6 R r (p.core R r) from⟨p,hp,rfl⟩).er
 refine q7.sub (R:=fun y H'=>y=.tup []∧∃H2,Ab.HSub H2 H'∧z6 R (Q6 pth .tr r) H2) ?_ fun y H' ⟨h1,H2,h2,h3⟩ _=>⟨H2,h2,h1,h3⟩
 obtain⟨rest,hrest⟩:∃rest,rest=w5 p r:=⟨_,rfl⟩
 have hco:=jB p R r
 rw[←hrest]at hco
 rw[hco]
 refine zov Tryz.func66 CV fun imm0 w0=>?_
 (simp (maxSteps:=2000000) (disch:=first|omega|assumption) [zz,-List.reduceReplicate,zK,strs,w8])
 intro b2 m1 m2 b3 o0 o1 o2 b4 q0 q1 q2 q3
 have sy:∀ {a b:Nat},¬a=b→¬b=a:=fun h e=>h e.symm
 have m1':=sy m1;have o0':=sy o0;have o1':=sy o1;have q0':=sy q0;have q1':=sy q1;have q2':=sy q2
 simp (disch:=omega) [zz,qW,m1,m1',o0,o0',o1,o1',q0,q0',q1,q1',q2,q2']
 refine zcv (xN r.buf hbl) ?_
 simp (disch:=omega) [zz,qW,m1,m1',o0,o0',o1,o1',q0,q0',q1,q1',q2,q2']
 obtain⟨p2,hp2e⟩:∃p2:zY,p2={ p with S:=(b2,zA R)::p.S }:=⟨_,rfl⟩
 have hp2:p2.OK R r:=by
  rw[hp2e]
  refine⟨hp.todo,hp.seen,?_,?_⟩
  ·simp only[q8.er_cons,hp.box,zA,HObj.er_var,AV.erk]
  ·exact hp.tds.mono fun z hz=>by simp[hz]
 have hcok:UX R p2.q p2.S .tr (.fn 100 [.ptr b2 .ptr []]):=by
  rw[hp2e]
  exact⟨b2,rfl,by simp⟩
 have hask:=zey R pth .tr _ hp2 hcok hb
 have her2:=(show z6 R r (p2.core R r) from⟨p2,hp2,rfl⟩).er
 refine qE (R:=fun y H'=>y=.tup []∧z6 R (Q6 pth .tr r) H') (p2.core R r) [(b4,zF pth),(b3,kJ ⟨[w8,pth],rs⟩)] ?_ rfl (by simp[qQ]) (by simp) ?_ ?_
 ·rw[hp2e]
  refine List.perm_iff_count.2 fun a=>?_
  simp only[zY.core,hrest,w5,List.count_append,List.count_cons,List.count_nil,QE,kQ,zF,yE,zA,kJ,zK,strs,w8,qW,List.map_cons,List.map_nil]
  omega
 ·rw[her2]
  simpa[TV.er,AV.er]using hask
 rintro y H' ⟨rfl,hh⟩ _
 refine⟨H',HSub.of_sub (List.sublist_append_left _ _),?_⟩
 have hhe:=hh.er
 simp (disch:=omega) [zz,Tryz.f66,hhe]
 exact⟨H',HSub.refl _,hh⟩
end Go.Proofs.YtcgpcfcbienapaaGreatDoor
end
section
set_option maxRecDepth 100000
namespace Go.Proofs.YtcgpcfcbienapaaGreatDoor
open Go Go.Ab
open Classical
variable [Sel] [SelPow] [SelMax]
set_option maxHeartbeats 8000000 in
theorem zla (R:Nat) (rs:Txt) {r:zCT} {p:zY} (hp:p.OK R r) (hb:RB r) (hbl:r.buf.length≤65536) (hrs:rs.length≤1000000) :
  q7 Tryz.prog 66 [.av .ptr (.ptr R kQ []),.av QE (zK ⟨[zCX],rs⟩)] (p.core R r) fun y H'=>y=.tup []∧z6 R (wW (rs++[10]) r) H':=by
 have her:=(show z6 R r (p.core R r) from⟨p,hp,rfl⟩).er
 refine q7.sub (R:=fun y H'=>y=.tup []∧∃H2,Ab.HSub H2 H'∧z6 R (wW (rs++[10]) r) H2) ?_ fun y H' ⟨h1,H2,h2,h3⟩ _=>⟨H2,h2,h1,h3⟩
 obtain⟨rest,hrest⟩:∃rest,rest=w5 p r:=⟨_,rfl⟩
 have hco:=jB p R r
 rw[←hrest]at hco
 rw[hco]
 refine zov Tryz.func66 CV fun imm0 w0=>?_
 (simp (maxSteps:=2000000) (disch:=first|omega|assumption) [zz,-List.reduceReplicate,zK,strs,zCX])
 intro b2 m1 m2 b3 o0 o1 o2 b4 q0 q1 q2 q3
 have sy:∀ {a b:Nat},¬a=b→¬b=a:=fun h e=>h e.symm
 have m1':=sy m1;have o0':=sy o0;have o1':=sy o1;have q0':=sy q0;have q1':=sy q1;have q2':=sy q2
 simp (disch:=omega) [zz,qW,m1,m1',o0,o0',o1,o1',q0,q0',q1,q1',q2,q2']
 refine zcv (xN r.buf hbl) ?_
 simp (disch:=omega) [zz,qW,m1,m1',o0,o0',o1,o1',q0,q0',q1,q1',q2,q2']
 refine⟨by omega,?_⟩
 refine qE (R:=fun y H'=>y=.tup []∧z6 R (wW (rs++[10]) r) H') (p.core R r) [(b4,zF []),(b3,kJ ⟨[zCX],rs⟩),(b2,zA R)] ?_ rfl (by simp[qQ]) (by simp) ?_ ?_
 ·refine List.perm_iff_count.2 fun a=>?_
  simp only[zY.core,hrest,w5,List.count_append,List.count_cons,List.count_nil,QE,kQ,zF,yE,zA,kJ,zK,strs,zCX,qW,List.map_cons,List.map_nil]
  omega
 ·rw[her]
  have:=zjg R (rs++[10]) (r:=r) (H:=p.core R r) ⟨p,hp,rfl⟩ hb.buf (by simp;omega)
  simpa[TV.er,AV.er]using this
 rintro y H' ⟨rfl,hh⟩ _
 refine⟨H',HSub.of_sub (List.sublist_append_left _ _),?_⟩
 have hhe:=hh.er
 simp (disch:=omega) [zz,Tryz.f66,hhe]
 exact⟨H',HSub.refl _,hh⟩
set_option maxHeartbeats 8000000 in
theorem zkm (R:Nat) (rs:Txt) {r:zCT} {p:zY} (hp:p.OK R r) (hb:RB r) (hbl:r.buf.length≤65536) :
  q7 Tryz.prog 66 [.av .ptr (.ptr R kQ []),.av QE (zK ⟨[yR],rs⟩)] (p.core R r) fun y H'=>y=.tup []∧z6 R (wC 15 r) H':=by
 have her:=(show z6 R r (p.core R r) from⟨p,hp,rfl⟩).er
 refine q7.sub (R:=fun y H'=>y=.tup []∧∃H2,Ab.HSub H2 H'∧z6 R (wC 15 r) H2) ?_ fun y H' ⟨h1,H2,h2,h3⟩ _=>⟨H2,h2,h1,h3⟩
 obtain⟨rest,hrest⟩:∃rest,rest=w5 p r:=⟨_,rfl⟩
 have hco:=jB p R r
 rw[←hrest]at hco
 rw[hco]
 refine zov Tryz.func66 CV fun imm0 w0=>?_
 (simp (maxSteps:=2000000) (disch:=first|omega|assumption) [zz,-List.reduceReplicate,zK,strs,yR])
 intro b2 m1 m2 b3 o0 o1 o2 b4 q0 q1 q2 q3
 have sy:∀ {a b:Nat},¬a=b→¬b=a:=fun h e=>h e.symm
 have m1':=sy m1;have o0':=sy o0;have o1':=sy o1;have q0':=sy q0;have q1':=sy q1;have q2':=sy q2
 simp (disch:=omega) [zz,qW,m1,m1',o0,o0',o1,o1',q0,q0',q1,q1',q2,q2']
 refine zcv (xN r.buf hbl) ?_
 simp (disch:=omega) [zz,qW,m1,m1',o0,o0',o1,o1',q0,q0',q1,q1',q2,q2']
 refine qE (R:=fun y H'=>y=.tup []∧z6 R (wC 15 r) H') (p.core R r) [(b4,zF []),(b3,kJ ⟨[yR],rs⟩),(b2,zA R)] ?_ rfl (by simp[qQ]) (by simp) ?_ ?_
 ·refine List.perm_iff_count.2 fun a=>?_
  simp only[zY.core,hrest,w5,List.count_append,List.count_cons,List.count_nil,QE,kQ,zF,yE,zA,kJ,zK,strs,yR,qW,List.map_cons,List.map_nil]
  omega
 ·rw[her]
  exact q7.args (ze1 R 15 (r:=r) (H:=p.core R r) ⟨p,hp,rfl⟩) (by simp[qS,coC,TV.er,AV.er])
 rintro y H' ⟨rfl,hh⟩ _
 refine⟨H',HSub.of_sub (List.sublist_append_left _ _),?_⟩
 have hhe:=hh.er
 simp (disch:=omega) [zz,Tryz.f66,hhe]
 exact⟨H',HSub.refl _,hh⟩
set_option maxHeartbeats 8000000 in
theorem zjU (R:Nat) (pth rs:Txt) {r:zCT} {p:zY} (hp:p.OK R r) (hb:RB r) (hbl:r.buf.length≤65536) :
  q7 Tryz.prog 66 [.av .ptr (.ptr R kQ []),.av QE (zK ⟨[j8,pth],rs⟩)] (p.core R r) fun y H'=>y=.tup []∧z6 R ({ r with over:=⟨2,pth,r.buf,0⟩,buf:=[] }) H':=by
 have her:=(show z6 R r (p.core R r) from⟨p,hp,rfl⟩).er
 refine q7.sub (R:=fun y H'=>y=.tup []∧∃H2,Ab.HSub H2 H'∧z6 R ({ r with over:=⟨2,pth,r.buf,0⟩,buf:=[] }) H2) ?_ fun y H' ⟨h1,H2,h2,h3⟩ _=>⟨H2,h2,h1,h3⟩
 obtain⟨rest,hrest⟩:∃rest,rest=w5 p r:=⟨_,rfl⟩
 have hco:=jB p R r
 rw[←hrest]at hco
 rw[hco]
 refine zov Tryz.func66 CV fun imm0 w0=>?_
 (simp (maxSteps:=2000000) (disch:=first|omega|assumption) [zz,-List.reduceReplicate,zK,strs,j8])
 intro b2 m1 m2 b3 o0 o1 o2 b4 q0 q1 q2 q3
 have sy:∀ {a b:Nat},¬a=b→¬b=a:=fun h e=>h e.symm
 have m1':=sy m1;have o0':=sy o0;have o1':=sy o1;have q0':=sy q0;have q1':=sy q1;have q2':=sy q2
 simp (disch:=omega) [zz,qW,m1,m1',o0,o0',o1,o1',q0,q0',q1,q1',q2,q2']
 refine zcv (xN r.buf hbl) ?_
 simp (disch:=omega) [zz,qW,m1,m1',o0,o0',o1,o1',q0,q0',q1,q1',q2,q2']
 obtain⟨_,e2⟩:=hp.todo.er hp.tds
 have e3:=zV r.env
 have hrer:rest.er=rest:=by
  rw[hco,q8.er_cons]at her
  exact(List.cons.inj her).2
 (repeat with_reducible refine om ?_)
 refine jW.ofK [0,1,2,3,4,5,6,7,8,9] [] [] (by kernel_rfl) ?_
 simp (disch:=omega) [zz,qW,jG,m1,m1',o0,o0',o1,o1',q0,q0',q1,q1',q2,q2']
 (repeat with_reducible refine om ?_)
 simp (disch:=omega) [zz,qW,jG,m1,m1',o0,o0',o1,o1',q0,q0',q1,q1',q2,q2',e2,e3,hrer,Tryz.f66]
 refine⟨p.core R { r with over:=⟨2,pth,r.buf,0⟩,buf:=[] },HSub.of_sub ?_,p,⟨hp.todo,hp.seen,hp.box,hp.tds⟩,rfl⟩
 rw[jB]
 have:w5 p { r with over:=⟨2,pth,r.buf,0⟩,buf:=[] }=rest:=by rw[hrest];rfl
 rw[this]
 simp only[qW,jG]
 exact(((List.Sublist.refl _).cons _).cons _).cons _
end Go.Proofs.YtcgpcfcbienapaaGreatDoor
end
section
set_option maxRecDepth 100000
namespace Go.Proofs.YtcgpcfcbienapaaGreatDoor
open Go Go.Ab
open Classical
variable [Sel] [SelPow] [SelMax]
@[simp] theorem zlh:qZ Tryz.prog 102=true:=by kernel_rfl
@[simp] theorem zqR:z8 Tryz.prog (.func 102)=false:=q9 zlh
abbrev zri:TyD:=.struct [9,9]
@[simp] theorem zpw (x:Txt × Txt):(Z7 x).er=Z7 x:=rfl
theorem zkK (b:Nat) (arg:Txt) (x:Txt × Txt):q7 Tryz.prog 103 [.av zri (Z7 x),.av .ptr (.ptr b .str [])] [(b,zF arg)] fun r H'=>r=.av .bool (.b (decide (x.1=arg)))∧H'=[(b,zF arg)]:=by
 refine zov Tryz.func103 cf0 fun imm0 w0=>?_
 simp (disch:=omega) [zz,zF,Z7,Tryz.f103]
set_option maxHeartbeats 4000000 in
theorem zim (b:Nat) (arg:Txt) (ts:List (Txt × Txt)) (hn:ts.length≤1000000000) :
  q7 Tryz.prog 102 [.av (.slice 84) (zS ts),.av .func (.fn 103 [.ptr b .str []])] [(b,zF arg)]
   fun r H'=>r=.av (.int .i64) (.i .i64 (J7 (fun x=>decide (x.1=arg)) ts))∧H'=[(b,zF arg)]:=by
 have hbe:(zF arg).er=zF arg:=rfl
 refine zov Tryz.func102 cf0 fun imm0 w0=>?_
 simp (disch:=omega) [zz,zS]
 refine AT.loop' (α:=Nat) (fun k=>St.of [(0,.av (.slice 84) (.sl .no (ts.map Z7))),(1,.av .func (.fn 103 [.ptr b .str []])),(7,.av (.int .i64) (.i .i64 ts.length)),(8,.av (.int .i64) (.i .i64 k))] [] (fun _=>0) [(b,zF arg)])
  (fun k=>k≤ts.length∧∀x∈ts.take k,(fun x:Txt × Txt=>decide (x.1=arg)) x=false) (fun k=>ts.length-k) 0 ?_ ?_ ?_
 ·apply Le.of<;>simp[qU,qG]
 ·simp
 rintro k ⟨hk',hpk⟩ KL hN hE
 refine qM (cf:=cf0) laid mixed _ _ _ (by kernel_rfl) ?_
 by_cases hlt:k<ts.length
 ·have hlt':(k:Int)<ts.length:=by omega
  have hg:(ts.map Z7)[k]?=some (Z7 ts[k]):=by simp[List.getElem?_eq_getElem hlt]
  simp (disch:=omega) [zz,hlt',hg]
  refine qE (R:=fun r' H'=>r'=.av .bool (.b (decide (ts[k].1=arg)))∧H'=[(b,zF arg)]) [(b,zF arg)] [] (by simp) rfl (by simp[qQ]) (by simp) ?_ ?_
  ·rw[q8.er_cons,hbe]
   simpa[TV.er,AV.er]using zkK b arg ts[k]
  rintro r' H' ⟨rfl,rfl⟩ _
  refine⟨[(b,zF arg)],HSub.refl _,?_⟩
  by_cases hpp:ts[k].1=arg
  ·simp (disch:=omega) [zz,hpp]
   refine hE _ _ (by simp) ?_
   simp (disch:=omega) [zz,Tryz.f102,uL (p:=fun x:Txt × Txt=>decide (x.1=arg)) hlt hpk (by simpa using hpp),hbe]
  ·simp (disch:=omega) [zz,hpp]
   refine hN _ (k+1) ?_ ⟨by omega,by rw[Z2 hlt];exact⟨hpk,by simpa using hpp⟩⟩ (by omega)
   apply Le.of<;>simp[qU,qG]
 ·have hlt':¬(k:Int)<ts.length:=by omega
  simp (disch:=omega) [zz,hlt']
  refine hE _ _ (by simp) ?_
  rw[List.take_of_length_le (by omega)]at hpk
  simp (disch:=omega) [zz,Tryz.f102,x9 (p:=fun x:Txt × Txt=>decide (x.1=arg)) hpk,hbe]
set_option maxHeartbeats 8000000 in
theorem znH (R:Nat) (arg rs:Txt) {r:zCT} {p:zY} (hp:p.OK R r) (hb:RB r) (hbl:r.buf.length≤65536) (hen:r.env.length≤1000000000) (hev:∀x∈r.env,x.2.length≤1000000000000000) :
  q7 Tryz.prog 66 [.av .ptr (.ptr R kQ []),.av QE (zK ⟨[yO,arg],rs⟩)] (p.core R r) fun y H'=>y=.tup []∧z6 R (match r.env.find? (fun x=>decide (x.1=arg))with|some x=>wW x.2 r|none=>wC 10 r) H':=by
 have her:=(show z6 R r (p.core R r) from⟨p,hp,rfl⟩).er
 refine q7.sub (R:=fun y H'=>y=.tup []∧∃H2,Ab.HSub H2 H'∧z6 R (match r.env.find? (fun x=>decide (x.1=arg))with|some x=>wW x.2 r|none=>wC 10 r) H2) ?_ fun y H' ⟨h1,H2,h2,h3⟩ _=>⟨H2,h2,h1,h3⟩
 obtain⟨rest,hrest⟩:∃rest,rest=w5 p r:=⟨_,rfl⟩
 have hco:=jB p R r
 rw[←hrest]at hco
 rw[hco]
 refine zov Tryz.func66 CV fun imm0 w0=>?_
 (simp (maxSteps:=2000000) (disch:=first|omega|assumption) [zz,-List.reduceReplicate,zK,strs,yO])
 intro b2 m1 m2 b3 o0 o1 o2 b4 q0 q1 q2 q3
 have sy:∀ {a b:Nat},¬a=b→¬b=a:=fun h e=>h e.symm
 have m1':=sy m1;have o0':=sy o0;have o1':=sy o1;have q0':=sy q0;have q1':=sy q1;have q2':=sy q2
 simp (disch:=omega) [zz,qW,m1,m1',o0,o0',o1,o1',q0,q0',q1,q1',q2,q2']
 refine zcv (xN r.buf hbl) ?_
 simp (disch:=omega) [zz,qW,m1,m1',o0,o0',o1,o1',q0,q0',q1,q1',q2,q2']
 obtain⟨q,hq⟩:∃q,q=J7 (fun x:Txt × Txt=>decide (x.1=arg)) r.env:=⟨_,rfl⟩
 have hix:=zim b4 arg r.env hen
 rw[←hq]at hix
 refine qE (R:=fun r' H'=>r'=.av (.int .i64) (.i .i64 q)∧H'=[(b4,zF arg)]) [(b4,zF arg)] ((b3,kJ ⟨[yO,arg],rs⟩)::(b2,zA R)::(R,qW p.ta (zS r.env) r.buf p.K r.asks r.waits r.over)::rest) (by simp[zF,zA,kJ,zK,strs,yO,qW]) rfl (by simp[qQ]) (by simp) ?_ ?_
 ·have e9:=zV r.env
  simpa[TV.er,AV.er,q8.er_cons,zF,HObj.er_var,AV.erk,zS,AV.ers_eq,Function.comp_def]using hix
 rintro r' H' ⟨rfl,rfl⟩ _
 refine⟨_,HSub.refl _,?_⟩
 rcases ze8 (fun x:Txt × Txt=>decide (x.1=arg)) r.env with⟨he,hf⟩|⟨i,hi,he,hf⟩
 ·rw[←hq]at he
  subst he
  simp (disch:=omega) [zz,hf,zF,zA,kJ,zK,strs,qW,m1,m1',o0,o0',o1,o1',q0,q0',q1,q1',q2,q2']
  refine qE (R:=fun y H'=>y=.tup []∧z6 R (wC 10 r) H') (p.core R r) [(b4,zF arg),(b3,kJ ⟨[yO,arg],rs⟩),(b2,zA R)] ?_ rfl (by simp[qQ]) (by simp) ?_ ?_
  ·refine List.perm_iff_count.2 fun a=>?_
   simp only[zY.core,hrest,w5,List.count_append,List.count_cons,List.count_nil,QE,kQ,zF,yE,zA,kJ,zK,strs,yO,qW,List.map_cons,List.map_nil]
   omega
  ·rw[her]
   exact q7.args (ze1 R 10 (r:=r) (H:=p.core R r) ⟨p,hp,rfl⟩) (by simp[qS,coC,TV.er,AV.er])
  rintro y H' ⟨rfl,hh⟩ _
  refine⟨H',HSub.of_sub (List.sublist_append_left _ _),?_⟩
  have hhe:=hh.er
  simp (disch:=omega) [zz,Tryz.f66,hhe]
  exact⟨H',HSub.refl _,hh⟩
 ·rw[←hq]at he
  subst he
  have h0:¬(i:Int)<0:=by omega
  have hil:(i:Int)<r.env.length:=by omega
  have hg:(r.env.map Z7)[i]?=some (Z7 r.env[i]):=by simp[List.getElem?_eq_getElem hi]
  have hvl:=hev _ (List.getElem_mem hi)
  simp (disch:=omega) [zz,h0,zF,zA,kJ,zK,zS,strs,qW,m1,m1',o0,o0',o1,o1',q0,q0',q1,q1',q2,q2']
  refine jW.ofK [0,1,2,3,4,5,6,7,8,9] [] [] (by kernel_rfl) ?_
  simp (disch:=omega) [zz,h0,hf,hil,hg,hi,Z7,m1,m1',o0,o0',o1,o1',q0,q0',q1,q1',q2,q2']
  (repeat with_reducible refine om ?_)
  refine qE (R:=fun y H'=>y=.tup []∧z6 R (wW r.env[i].2 r) H') (p.core R r) [(b4,zF arg),(b3,kJ ⟨[yO,arg],rs⟩),(b2,zA R)] ?_ rfl (by simp[qQ]) (by simp) ?_ ?_
  ·refine List.perm_iff_count.2 fun a=>?_
   simp only[zY.core,hrest,w5,List.count_append,List.count_cons,List.count_nil,QE,kQ,zF,yE,zA,zS,kJ,zK,strs,yO,qW,List.map_cons,List.map_nil]
   omega
  ·rw[her]
   have:=zjg R r.env[i].2 (r:=r) (H:=p.core R r) ⟨p,hp,rfl⟩ hb.buf (by omega)
   simpa[TV.er,AV.er]using this
  rintro y H' ⟨rfl,hh⟩ _
  refine⟨H',HSub.of_sub (List.sublist_append_left _ _),?_⟩
  have hhe:=hh.er
  simp (disch:=omega) [zz,Tryz.f66,hhe]
  exact⟨H',HSub.refl _,hh⟩
end Go.Proofs.YtcgpcfcbienapaaGreatDoor
end
section
set_option maxRecDepth 100000
namespace Go.Proofs.YtcgpcfcbienapaaGreatDoor
open Go Go.Ab
open Classical
variable [Sel] [SelPow] [SelMax]
set_option maxHeartbeats 8000000 in
theorem zic (R:Nat) (nm arg rs:Txt) {r:zCT} {p:zY} (hp:p.OK R r) (hb:RB r) (hbl:r.buf.length≤65536) (hnm:nm=wP∨nm=y4∨nm=kV∨nm=kY∨nm=wQ) :
  q7 Tryz.prog 66 [.av .ptr (.ptr R kQ []),.av QE (zK ⟨[nm,arg],rs⟩)] (p.core R r) fun y H'=>y=.tup []∧z6 R (wK nm arg r) H':=by
 have her:=(show z6 R r (p.core R r) from⟨p,hp,rfl⟩).er
 refine q7.sub (R:=fun y H'=>y=.tup []∧∃H2,Ab.HSub H2 H'∧z6 R (wK nm arg r) H2) ?_ fun y H' ⟨h1,H2,h2,h3⟩ _=>⟨H2,h2,h1,h3⟩
 obtain⟨rest,hrest⟩:∃rest,rest=w5 p r:=⟨_,rfl⟩
 have hco:=jB p R r
 rw[←hrest]at hco
 rw[hco]
 have hne:(¬nm=[114,101,97,100])∧(¬nm=[116,114,121])∧(¬nm=[115,99,97,110])∧(¬nm=[116,101,120,116])∧(¬nm=[101,110,118])∧(¬nm=[119,114,105,116,101])∧(¬nm=[110,101,101,100])∧(¬nm=[102,97,105,108]):=by
  rcases hnm with rfl|rfl|rfl|rfl|rfl<;>decide
 obtain⟨h1,h2,h3,h4,h5,h6,h7,h8⟩:=hne
 refine zov Tryz.func66 CV fun imm0 w0=>?_
 (simp (maxSteps:=2000000) (disch:=first|omega|assumption) [zz,-List.reduceReplicate,zK,strs,h1,h2,h3,h4,h5,h6,h7,h8])
 intro b2 m1 m2 b3 o0 o1 o2 b4 q0 q1 q2 q3
 have sy:∀ {a b:Nat},¬a=b→¬b=a:=fun h e=>h e.symm
 have m1':=sy m1;have o0':=sy o0;have o1':=sy o1;have q0':=sy q0;have q1':=sy q1;have q2':=sy q2
 simp (disch:=omega) [zz,qW,m1,m1',o0,o0',o1,o1',q0,q0',q1,q1',q2,q2']
 obtain⟨bx,hbx⟩:∃bx:q8,bx=(b4,zF arg)::(b3,kJ ⟨[nm,arg],rs⟩)::(b2,zA R)::(R,qW p.ta (zS r.env) r.buf p.K r.asks r.waits r.over)::rest:=⟨_,rfl⟩
 refine qE (R:=D9 (z7 r.buf)) [] bx (by rw[hbx];simp[zF,zA,kJ,zK,strs,qW,kG]) rfl (by simp[qQ]) (by simp) ?_ ?_
 ·simpa[TV.er,AV.er]using VP r.buf (by omega)
 intro rr HR hR hndR
 obtain⟨v,rfl,hrow⟩:=KF.of hR
 have hb4:∀b∈HR.keys,b≠b4:=by
  intro b hb e
  rw[hbx]at hndR
  simp only[q8.keys,List.map_append,List.map_cons]at hndR
  have:=(List.nodup_append.1 hndR).2.2 b hb b4 (by simp)
  exact this e
 refine⟨bx++HR,HSub.of_perm List.perm_append_comm,?_⟩
 have hrer:=hrow.er
 rw[hbx]
 simp (disch:=omega) [zz,qW,zA,zF,kJ,zK,strs,h1,h2,h3,h4,h5,h6,h7,h8,m1,m1',o0,o0',o1,o1',q0,q0',q1,q1',q2,q2']
 refine jW.ofK [0,1,2,3,4,5,6,7] [] [] (by kernel_rfl) ?_
 simp (disch:=omega) [zz,m1,m1',o0,o0',o1,o1',q0,q0',q1,q1',q2,q2']
 (repeat with_reducible refine om ?_)
 have htu:=zn1 R nm arg hp v HR hrow hbl hnm
 refine qE (R:=fun y H'=>y=.tup []∧z6 R (wK nm arg r) H') (p.core R r++HR) [(b4,zF arg),(b3,kJ ⟨[nm,arg],rs⟩),(b2,zA R)] ?_ rfl (by simp[qQ]) (by simp) ?_ ?_
 ·refine List.perm_iff_count.2 fun a=>?_
  simp only[zY.core,hrest,w5,List.count_append,List.count_cons,List.count_nil,QE,kQ,zF,yE,zA,kJ,zK,strs,wP,qW,List.map_cons,List.map_nil]
  omega
 ·rw[q8.er_app,her,hrer.1]
  simpa[TV.er,AV.er,hrer.2]using htu
 rintro y H' ⟨rfl,hh⟩ _
 refine⟨H',HSub.of_sub (List.sublist_append_left _ _),?_⟩
 have hhe:=hh.er
 simp (disch:=omega) [zz,Tryz.f66,hhe]
 exact⟨H',HSub.refl _,hh⟩
set_option maxHeartbeats 8000000 in
theorem vK (R:Nat) (nm rs:Txt) {r:zCT} {p:zY} (hp:p.OK R r) (hb:RB r) (hbl:r.buf.length≤65536) (hnm:nm=wP∨nm=y4∨nm=kV∨nm=kY∨nm=wQ) :
  q7 Tryz.prog 66 [.av .ptr (.ptr R kQ []),.av QE (zK ⟨[nm],rs⟩)] (p.core R r) fun y H'=>y=.tup []∧z6 R (wK nm [] r) H':=by
 have her:=(show z6 R r (p.core R r) from⟨p,hp,rfl⟩).er
 refine q7.sub (R:=fun y H'=>y=.tup []∧∃H2,Ab.HSub H2 H'∧z6 R (wK nm [] r) H2) ?_ fun y H' ⟨h1,H2,h2,h3⟩ _=>⟨H2,h2,h1,h3⟩
 obtain⟨rest,hrest⟩:∃rest,rest=w5 p r:=⟨_,rfl⟩
 have hco:=jB p R r
 rw[←hrest]at hco
 rw[hco]
 have hne:(¬nm=[114,101,97,100])∧(¬nm=[116,114,121])∧(¬nm=[115,99,97,110])∧(¬nm=[116,101,120,116])∧(¬nm=[101,110,118])∧(¬nm=[119,114,105,116,101])∧(¬nm=[110,101,101,100])∧(¬nm=[102,97,105,108]):=by
  rcases hnm with rfl|rfl|rfl|rfl|rfl<;>decide
 obtain⟨h1,h2,h3,h4,h5,h6,h7,h8⟩:=hne
 refine zov Tryz.func66 CV fun imm0 w0=>?_
 (simp (maxSteps:=2000000) (disch:=first|omega|assumption) [zz,-List.reduceReplicate,zK,strs,h1,h2,h3,h4,h5,h6,h7,h8])
 intro b2 m1 m2 b3 o0 o1 o2 b4 q0 q1 q2 q3
 have sy:∀ {a b:Nat},¬a=b→¬b=a:=fun h e=>h e.symm
 have m1':=sy m1;have o0':=sy o0;have o1':=sy o1;have q0':=sy q0;have q1':=sy q1;have q2':=sy q2
 simp (disch:=omega) [zz,qW,m1,m1',o0,o0',o1,o1',q0,q0',q1,q1',q2,q2']
 obtain⟨bx,hbx⟩:∃bx:q8,bx=(b4,zF [])::(b3,kJ ⟨[nm],rs⟩)::(b2,zA R)::(R,qW p.ta (zS r.env) r.buf p.K r.asks r.waits r.over)::rest:=⟨_,rfl⟩
 refine qE (R:=D9 (z7 r.buf)) [] bx (by rw[hbx];simp[zF,zA,kJ,zK,strs,qW,kG]) rfl (by simp[qQ]) (by simp) ?_ ?_
 ·simpa[TV.er,AV.er]using VP r.buf (by omega)
 intro rr HR hR hndR
 obtain⟨v,rfl,hrow⟩:=KF.of hR
 have hb4:∀b∈HR.keys,b≠b4:=by
  intro b hb e
  rw[hbx]at hndR
  simp only[q8.keys,List.map_append,List.map_cons]at hndR
  have:=(List.nodup_append.1 hndR).2.2 b hb b4 (by simp)
  exact this e
 refine⟨bx++HR,HSub.of_perm List.perm_append_comm,?_⟩
 have hrer:=hrow.er
 rw[hbx]
 simp (disch:=omega) [zz,qW,zA,zF,kJ,zK,strs,h1,h2,h3,h4,h5,h6,h7,h8,m1,m1',o0,o0',o1,o1',q0,q0',q1,q1',q2,q2']
 refine jW.ofK [0,1,2,3,4,5,6,7] [] [] (by kernel_rfl) ?_
 simp (disch:=omega) [zz,m1,m1',o0,o0',o1,o1',q0,q0',q1,q1',q2,q2']
 (repeat with_reducible refine om ?_)
 have htu:=zn1 R nm [] hp v HR hrow hbl hnm
 refine qE (R:=fun y H'=>y=.tup []∧z6 R (wK nm [] r) H') (p.core R r++HR) [(b4,zF []),(b3,kJ ⟨[nm],rs⟩),(b2,zA R)] ?_ rfl (by simp[qQ]) (by simp) ?_ ?_
 ·refine List.perm_iff_count.2 fun a=>?_
  simp only[zY.core,hrest,w5,List.count_append,List.count_cons,List.count_nil,QE,kQ,zF,yE,zA,kJ,zK,strs,wP,qW,List.map_cons,List.map_nil]
  omega
 ·rw[q8.er_app,her,hrer.1]
  simpa[TV.er,AV.er,hrer.2]using htu
 rintro y H' ⟨rfl,hh⟩ _
 refine⟨H',HSub.of_sub (List.sublist_append_left _ _),?_⟩
 have hhe:=hh.er
 simp (disch:=omega) [zz,Tryz.f66,hhe]
 exact⟨H',HSub.refl _,hh⟩
end Go.Proofs.YtcgpcfcbienapaaGreatDoor
end
section
set_option maxRecDepth 100000
namespace Go.Proofs.YtcgpcfcbienapaaGreatDoor
open Go Go.Ab
open Classical
variable [Sel] [SelPow] [SelMax]
def zcX (arg:Txt) (r:zCT):zCT:=if (z7 r.buf).any (fun s=>Lib.contains s arg)=true then r else wC 15 r
theorem zoz (b:Nat) (arg x:Txt) (hx:x.length≤1000000000):q7 Tryz.prog 105 [.av .str (.s x),.av .ptr (.ptr b .str [])] [(b,zF arg)] fun r H'=>r=.av .bool (.b (Lib.contains x arg))∧H'=[(b,zF arg)]:=by
 refine zov Tryz.func105 cf0 fun imm0 w0=>?_
 simp (disch:=omega) [zz,zF]
 refine zcv (GN x arg (by omega)) ?_
 simp (disch:=omega) [zz,Tryz.f105]
set_option maxHeartbeats 8000000 in
theorem zmV (R:Nat) (arg rs:Txt) {r:zCT} {p:zY} (hp:p.OK R r) (hb:RB r) (hbl:r.buf.length≤65536) (hal:arg.length≤1000000) :
  q7 Tryz.prog 66 [.av .ptr (.ptr R kQ []),.av QE (zK ⟨[kG,arg],rs⟩)] (p.core R r) fun y H'=>y=.tup []∧z6 R (zcX arg r) H':=by
 have her:=(show z6 R r (p.core R r) from⟨p,hp,rfl⟩).er
 refine q7.sub (R:=fun y H'=>y=.tup []∧∃H2,Ab.HSub H2 H'∧z6 R (zcX arg r) H2) ?_ fun y H' ⟨h1,H2,h2,h3⟩ _=>⟨H2,h2,h1,h3⟩
 obtain⟨rest,hrest⟩:∃rest,rest=w5 p r:=⟨_,rfl⟩
 have hco:=jB p R r
 rw[←hrest]at hco
 rw[hco]
 refine zov Tryz.func66 CV fun imm0 w0=>?_
 (simp (maxSteps:=2000000) (disch:=first|omega|assumption) [zz,-List.reduceReplicate,zK,strs,kG])
 intro b2 m1 m2 b3 o0 o1 o2 b4 q0 q1 q2 q3
 have sy:∀ {a b:Nat},¬a=b→¬b=a:=fun h e=>h e.symm
 have m1':=sy m1;have o0':=sy o0;have o1':=sy o1;have q0':=sy q0;have q1':=sy q1;have q2':=sy q2
 simp (disch:=omega) [zz,qW,m1,m1',o0,o0',o1,o1',q0,q0',q1,q1',q2,q2']
 obtain⟨bx,hbx⟩:∃bx:q8,bx=(b4,zF arg)::(b3,kJ ⟨[kG,arg],rs⟩)::(b2,zA R)::(R,qW p.ta (zS r.env) r.buf p.K r.asks r.waits r.over)::rest:=⟨_,rfl⟩
 refine qE (R:=D9 (z7 r.buf)) [] bx (by rw[hbx];simp[zF,zA,kJ,zK,strs,qW,kG]) rfl (by simp[qQ]) (by simp) ?_ ?_
 ·simpa[TV.er,AV.er]using VP r.buf (by omega)
 intro rr HR hR hndR
 obtain⟨v,rfl,hrow⟩:=KF.of hR
 have hb4:∀b∈HR.keys,b≠b4:=by
  intro b hb e
  rw[hbx]at hndR
  simp only[q8.keys,List.map_append,List.map_cons]at hndR
  have:=(List.nodup_append.1 hndR).2.2 b hb b4 (by simp)
  exact this e
 refine⟨bx++HR,HSub.of_perm List.perm_append_comm,?_⟩
 have hrer:=hrow.er
 rw[hbx]
 simp (disch:=omega) [zz,qW,zA,zF,kJ,zK,strs,kG,m1,m1',o0,o0',o1,o1',q0,q0',q1,q1',q2,q2']
 have hpr:zaJ (.fn 105 [.ptr b4 .str []]) b4 (zF arg) (fun s=>Lib.contains s arg) (z7 r.buf):=⟨rfl,rfl,fun x hxm=>⟨_,rfl,by simp,by have hxl:=W3 hxm;simpa[TV.er,AV.er]using zoz b4 arg x (by omega)⟩⟩
 have hany:=zjG _ _ b4 (zF arg) (z7 r.buf) hpr v HR hrow hb4 (by have:=ZE r.buf;omega)
 obtain⟨q,hq⟩:∃q,q=(z7 r.buf).any (fun s=>Lib.contains s arg):=⟨_,rfl⟩
 rw[←hq]at hany
 have hnr:zcX arg r=if q=true then r else wC 15 r:=by rw[hq];rfl
 rw[hnr]
 refine qE (R:=fun r' H'=>r'=.av .bool (.b q)∧H'=HR++[(b4,zF arg)]) (HR++[(b4,zF arg)]) ((b3,kJ ⟨[kG,arg],rs⟩)::(b2,zA R)::(R,qW p.ta (zS r.env) r.buf p.K r.asks r.waits r.over)::rest) ?_ rfl (by simp[qQ]) (by simp) ?_ ?_
 ·refine List.perm_iff_count.2 fun a=>?_
  simp only[zY.core,hrest,w5,List.count_append,List.count_cons,List.count_nil,QE,kQ,zF,yE,zA,kJ,zK,strs,kG,qW,List.map_cons,List.map_nil]
  omega
 ·rw[q8.er_app,hrer.1]
  simpa[TV.er,AV.er,q8.er_cons,zF,HObj.er_var,AV.erk,hrer.2]using hany
 rintro r' H' ⟨rfl,rfl⟩ _
 refine⟨(b4,zF arg)::(b3,kJ ⟨[kG,arg],rs⟩)::(b2,zA R)::p.core R r,⟨HR++((b4,zF arg)::(b3,kJ ⟨[kG,arg],rs⟩)::(b2,zA R)::p.core R r),?_,List.sublist_append_right _ _⟩,?_⟩
 ·refine List.perm_iff_count.2 fun a=>?_
  simp only[hco,List.count_append,List.count_cons,List.count_nil]
  omega
 rw[hco]
 cases q with
 | true =>
  have her3:=her
  rw[hco,q8.er_cons]at her3
  have e5:(qW p.ta (zS r.env) r.buf p.K r.asks r.waits r.over).er=qW p.ta (zS r.env) r.buf p.K r.asks r.waits r.over:=congrArg Prod.snd (List.cons.inj her3).1
  have e6:=(List.cons.inj her3).2
  simp (disch:=omega) [zz,zF,zA,kJ,zK,strs,e5,e6,Tryz.f66]
  refine⟨p.core R r,HSub.of_sub ?_,p,hp,rfl⟩
  rw[hco]
  exact(((List.Sublist.refl _).cons _).cons _).cons _
 | false =>
  simp (disch:=omega) [zz,zF,zA,kJ,zK,strs,m1,m1',o0,o0',o1,o1',q0,q0',q1,q1',q2,q2']
  refine qE (R:=fun y H'=>y=.tup []∧z6 R (wC 15 r) H') (p.core R r) [(b4,zF arg),(b3,kJ ⟨[kG,arg],rs⟩),(b2,zA R)] ?_ rfl (by simp[qQ]) (by simp) ?_ ?_
  ·refine List.perm_iff_count.2 fun a=>?_
   simp only[zY.core,hrest,w5,List.count_append,List.count_cons,List.count_nil,QE,kQ,zF,yE,zA,kJ,zK,strs,kG,qW,List.map_cons,List.map_nil]
   omega
  ·rw[her]
   exact q7.args (ze1 R 15 (r:=r) (H:=p.core R r) ⟨p,hp,rfl⟩) (by simp[qS,coC,TV.er,AV.er])
  rintro y H' ⟨rfl,hh⟩ _
  refine⟨H',HSub.of_sub (List.sublist_append_left _ _),?_⟩
  have hhe:=hh.er
  simp (disch:=omega) [zz,Tryz.f66,hhe]
  exact⟨H',HSub.refl _,hh⟩
theorem zDS.q {R:Nat} {q q':Option Nat} {S:q8} {t:TdV} {v:AV} (hc:isC t=true) (h:zDS R q S t v):zDS R q' S t v:=by
 cases t with
 | cmd c=>exact h
 | ans k p=>simp[isC]at hc
 | line s w=>simp[isC]at hc
theorem yN.q {R:Nat} {q q':Option Nat} {S:q8} {ts:List TdV} {vs:List AV} (h:yN R q S ts vs):(∀t∈ts,isC t=true)→yN R q' S ts vs:=by
 induction h with
 | nil=>exact fun _=>.nil
 | cons a _ ih=>exact fun hc=>.cons (a.q (hc _ (by simp))) (ih fun t ht=>hc t (by simp[ht]))
set_option maxHeartbeats 8000000 in
theorem zlJ (R:Nat) (pth w rs:Txt) {r:zCT} {p:zY} (hp:p.OK R r) (hb:RB r) (hbl:r.buf.length≤65536) (hcm:∀t∈r.todo,isC t=true) :
  q7 Tryz.prog 66 [.av .ptr (.ptr R kQ []),.av QE (zK ⟨[jT,pth,w],rs⟩)] (p.core R r) fun y H'=>y=.tup []∧z6 R (ZL pth w { r with seen:=[] }) H':=by
 have her:=(show z6 R r (p.core R r) from⟨p,hp,rfl⟩).er
 refine q7.sub (R:=fun y H'=>y=.tup []∧∃H2,Ab.HSub H2 H'∧z6 R (ZL pth w { r with seen:=[] }) H2) ?_ fun y H' ⟨h1,H2,h2,h3⟩ _=>⟨H2,h2,h1,h3⟩
 obtain⟨rest,hrest⟩:∃rest,rest=w5 p r:=⟨_,rfl⟩
 have hco:=jB p R r
 rw[←hrest]at hco
 rw[hco]
 refine zov Tryz.func66 CV fun imm0 w0=>?_
 (simp (maxSteps:=2000000) (disch:=first|omega|assumption) [zz,-List.reduceReplicate,zK,strs,jT])
 intro b2 m1 m2 b3 o0 o1 o2 b4 q0 q1 q2 q3
 have sy:∀ {a b:Nat},¬a=b→¬b=a:=fun h e=>h e.symm
 have m1':=sy m1;have o0':=sy o0;have o1':=sy o1;have q0':=sy q0;have q1':=sy q1;have q2':=sy q2
 simp (disch:=omega) [zz,qW,m1,m1',o0,o0',o1,o1',q0,q0',q1,q1',q2,q2']
 refine zcv (xN r.buf hbl) ?_
 simp (disch:=omega) [zz,qW,m1,m1',o0,o0',o1,o1',q0,q0',q1,q1',q2,q2']
 refine jW.ofK [0,1,2,3,4,5,6,7] [0,1,2,3,4,5] [b2,b3,b4] (by kernel_rfl) ?_
 simp (disch:=omega) [zz,zA,m1,m1',o0,o0',o1,o1',q0,q0',q1,q1',q2,q2']
 (repeat with_reducible refine om ?_)
 intro Q f1 f2 f3 f4 f5
 have f1':=sy f1;have f2':=sy f2;have f3':=sy f3;have f4':=sy f4
 simp (disch:=omega) [zz,XC,zA,f1,f1',f2,f2',f3,f3',f4,f4',m1,m1',o0,o0',o1,o1',q0,q0',q1,q1',q2,q2']
 (repeat with_reducible refine om ?_)
 obtain⟨p2,hp2e⟩:∃p2:zY,p2={ p with q:=some Q,QH:=[(Q,.map 9 4 (QY []))] }:=⟨_,rfl⟩
 have hp2:p2.OK R { r with seen:=[] }:=by
  rw[hp2e]
  exact⟨hp.todo,.inr ⟨Q,rfl,rfl⟩,hp.box,hp.tds.q hcm⟩
 have hb2:RB { r with seen:=[] }:=⟨hb.buf,hb.todo,hb.dat,hb.nk⟩
 have hscan:=zgl R Q pth w hp2 (by rw[hp2e]) hb2 (by simp)
 have her2:=(show z6 R { r with seen:=[] } (p2.core R { r with seen:=[] }) from⟨p2,hp2,rfl⟩).er
 refine qE (R:=fun y H'=>y=.tup []∧z6 R (ZL pth w { r with seen:=[] }) H') (p2.core R { r with seen:=[] }) ([(b4,zF pth),(b3,kJ ⟨[jT,pth,w],rs⟩),(b2,zA R)]++p.QH) ?_ rfl (by simp[qQ]) (by simp) ?_ ?_
 ·refine List.perm_iff_count.2 fun a=>?_
  simp only[hp2e,zY.core,QY,hrest,w5,List.count_append,List.count_cons,List.count_nil,QE,kQ,zF,yE,zA,kJ,zK,strs,jT,qW,List.map_cons,List.map_nil]
  omega
 ·rw[her2]
  simpa[TV.er,AV.er]using hscan
 rintro y H' ⟨rfl,hh⟩ _
 refine⟨H',HSub.of_sub (List.sublist_append_left _ _),?_⟩
 have hhe:=hh.er
 simp (disch:=omega) [zz,Tryz.f66,hhe]
 exact⟨H',HSub.refl _,hh⟩
inductive OKC:CmdV→Prop
 | read (p rs):OKC ⟨[zZ,p],rs⟩
 | try_ (p rs):OKC ⟨[w8,p],rs⟩
 | write (p rs):OKC ⟨[j8,p],rs⟩
 | scan (p w rs):OKC ⟨[jT,p,w],rs⟩
 | env (a rs):OKC ⟨[yO,a],rs⟩
 | need (a rs):OKC ⟨[kG,a],rs⟩
 | keep (a rs):OKC ⟨[wQ,a],rs⟩
 | sort (rs):OKC ⟨[wP],rs⟩
 | uniq (rs):OKC ⟨[y4],rs⟩
 | upper (rs):OKC ⟨[kV],rs⟩
 | count (rs):OKC ⟨[kY],rs⟩
 | fail (rs):OKC ⟨[yR],rs⟩
 | text (rs):OKC ⟨[zCX],rs⟩
theorem zbX (w:Txt):(jU w).1=0∨((jU w).1=2∧(jU w).2=true∧(w=zZ∨w=w8∨w=j8))∨((jU w).1=3∧(jU w).2=true∧w=jT)∨((jU w).1=2∧(jU w).2=false∧(w=yO∨w=wQ∨w=kG))∨((jU w).1=1∧(jU w).2=false∧(w=wP∨w=y4∨w=kV∨w=kY∨w=yR)):=by
 unfold jU
 by_cases a:w=zZ∨w=w8∨w=j8
 ·rw[if_pos a];exact .inr (.inl ⟨rfl,rfl,a⟩)
 rw[if_neg a]
 by_cases b:w=jT
 ·rw[if_pos b];exact .inr (.inr (.inl ⟨rfl,rfl,b⟩))
 rw[if_neg b]
 by_cases c:w=yO∨w=wQ∨w=kG
 ·rw[if_pos c];exact .inr (.inr (.inr (.inl ⟨rfl,rfl,c⟩)))
 rw[if_neg c]
 by_cases d:w=wP∨w=y4∨w=kV∨w=kY∨w=yR
 ·rw[if_pos d];exact .inr (.inr (.inr (.inr ⟨rfl,rfl,d⟩)))
 ·rw[if_neg d];exact .inl rfl
theorem zh3 {s:Txt} {c:CmdV} (h:Z0 s=some (some c)):OKC c∧c.rest.length≤s.length∧(∀w∈c.words,w.length≤s.length)∧(∀p w rs,c=⟨[jT,p,w],rs⟩→yV p=true)∧∀p rs,c=⟨[zZ,p],rs⟩∨c=⟨[w8,p],rs⟩∨c=⟨[j8,p],rs⟩→yV p=true:=by
 unfold Z0 at h
 have heach:∀w∈zR s,w.length≤s.length:=fun w hw=>by
  have:=(ZI hw).2;simpa using this
 cases hw:zR s with
 | nil=>rw[hw]at h;simp at h
 | cons w ws =>
  rw[hw]at h heach
  simp only at h
  split at h
  ·simp at h
  split at h
  ·rename_i ht
   simp only[Option.some.injEq]at h
   subst h;subst ht
   refine⟨.text _,by simp only[List.length_drop];omega,fun x hx=>?_,fun p w rs e=>?_,fun p rs e=>?_⟩
   ·simp only[List.mem_singleton]at hx;subst hx;exact heach _ (by simp)
   ·simp at e
   ·simp at e
  split at h
  ·simp at h
  ·rename_i ht hn
   simp only[Option.some.injEq]at h
   subst h
   simp only[not_or,Classical.not_not,not_and]at hn
   obtain⟨h1,h2,h3⟩:=hn
   refine⟨?_,by simp,heach,?_⟩
   ·rcases zbX w with h4|⟨h4,_,h5⟩|⟨h4,_,h5⟩|⟨h4,_,h5⟩|⟨h4,_,h5⟩
    ·exact absurd h4 h2
    ·have hl:ws.length=1:=by omega
     obtain⟨p,rfl⟩:=List.length_eq_one_iff.1 hl
     rcases h5 with rfl|rfl|rfl
     ·exact .read _ _
     ·exact .try_ _ _
     ·exact .write _ _
    ·have hl:ws.length=2:=by omega
     obtain⟨p,q,rfl⟩:∃p q,ws=[p,q]:=by
      match ws,hl with
      | [p,q],_=>exact⟨p,q,rfl⟩
     subst h5
     exact .scan _ _ _
    ·have hl:ws.length=1:=by omega
     obtain⟨p,rfl⟩:=List.length_eq_one_iff.1 hl
     rcases h5 with rfl|rfl|rfl
     ·exact .env _ _
     ·exact .keep _ _
     ·exact .need _ _
    ·have hl:ws.length=0:=by omega
     obtain rfl:=List.length_eq_zero_iff.1 hl
     rcases h5 with rfl|rfl|rfl|rfl|rfl
     ·exact .sort _
     ·exact .uniq _
     ·exact .upper _
     ·exact .count _
     ·exact .fail _
   ·have hmay:∀p ps,ws=p::ps→(jU w).2=true→yV p=true:=by
     rintro p ps rfl ht2
     have:=h3 ht2
     simpa using this
    refine⟨fun p q rs e=>?_,fun p rs e=>?_⟩
    ·have e1:=congrArg CmdV.words e
     simp only[List.cons.injEq]at e1
     obtain⟨rfl,rfl⟩:=e1
     exact hmay _ _ rfl (by decide)
    ·rcases e with e|e|e <;>
     ·have e1:=congrArg CmdV.words e
      simp only[List.cons.injEq]at e1
      obtain⟨rfl,rfl⟩:=e1
      exact hmay _ _ rfl (by decide)
theorem doH (R:Nat) {c:CmdV} (hc:OKC c) (h1:c.rest.length≤1000000) (h2:∀w∈c.words,w.length≤1000000) {r:zCT} {p:zY} (hp:p.OK R r) (hb:RB r) (hbl:r.buf.length≤65536) (hcm:∀t∈r.todo,isC t=true) (hen:r.env.length≤1000000000) (hev:∀x∈r.env,x.2.length≤1000000000000000) :
  q7 Tryz.prog 66 [.av .ptr (.ptr R kQ []),.av QE (zK c)] (p.core R r) fun y H'=>y=.tup []∧z6 R (doR c r) H':=by
 cases hc with
 | read q rs =>
  rw[show doR ⟨[zZ,q],rs⟩ r=Q6 q (.there .add) r by simp[doR]]
  exact zkO R q rs hp hb hbl
 | try_ q rs =>
  rw[show doR ⟨[w8,q],rs⟩ r=Q6 q .tr r by simp[doR,zZ,w8]]
  exact zod R q rs hp hb hbl
 | write q rs =>
  rw[show doR ⟨[j8,q],rs⟩ r={ r with over:=⟨2,q,r.buf,0⟩,buf:=[] } by simp[doR,zZ,w8,j8,jT,zCX,yO]]
  exact zjU R q rs hp hb hbl
 | scan q w rs =>
  rw[show doR ⟨[jT,q,w],rs⟩ r=ZL q w { r with seen:=[] } by simp[doR,zZ,w8,jT]]
  exact zlJ R q w rs hp hb hbl hcm
 | env a rs =>
  rw[show doR ⟨[yO,a],rs⟩ r=(match r.env.find? (fun x=>decide (x.1=a))with|some x=>wW x.2 r|none=>wC 10 r) by simp[doR,zZ,w8,jT,zCX,yO]<;>rfl]
  exact znH R a rs hp hb hbl hen hev
 | need a rs =>
  rw[show doR ⟨[kG,a],rs⟩ r=zcX a r by simp[doR,zcX,zZ,w8,jT,zCX,yO,j8,kG]]
  exact zmV R a rs hp hb hbl (h2 a (by simp))
 | keep a rs =>
  rw[show doR ⟨[wQ,a],rs⟩ r=wK wQ a r by simp[doR,zZ,w8,jT,zCX,yO,j8,kG,yR,wQ]]
  exact zic R wQ a rs hp hb hbl (by simp)
 | sort rs =>
  rw[show doR ⟨[wP],rs⟩ r=wK wP [] r by simp[doR,zZ,w8,jT,zCX,yO,j8,kG,yR,wP]]
  exact vK R wP rs hp hb hbl (by simp)
 | uniq rs =>
  rw[show doR ⟨[y4],rs⟩ r=wK y4 [] r by simp[doR,zZ,w8,jT,zCX,yO,j8,kG,yR,y4]]
  exact vK R y4 rs hp hb hbl (by simp)
 | upper rs =>
  rw[show doR ⟨[kV],rs⟩ r=wK kV [] r by simp[doR,zZ,w8,jT,zCX,yO,j8,kG,yR,kV]]
  exact vK R kV rs hp hb hbl (by simp)
 | count rs =>
  rw[show doR ⟨[kY],rs⟩ r=wK kY [] r by simp[doR,zZ,w8,jT,zCX,yO,j8,kG,yR,kY]]
  exact vK R kY rs hp hb hbl (by simp)
 | fail rs =>
  rw[show doR ⟨[yR],rs⟩ r=wC 15 r by simp[doR,zZ,w8,jT,zCX,yO,j8,kG,yR]]
  exact zkm R rs hp hb hbl
 | text rs =>
  rw[show doR ⟨[zCX],rs⟩ r=wW (rs++[10]) r by simp[doR,zZ,w8,jT,zCX]]
  exact zla R rs hp hb hbl h1
/-! ### what is to be done is fit to be done -/
def okt:TdV→Prop
 | .cmd c=>OKC c∧c.rest.length≤1000000∧∀w∈c.words,w.length≤1000000
 | .line s _=>s.length≤1000000
 | .ans _ _=>True
def Fit (r r':zCT):Prop:=(∀k∈r.known,k.is=true→k.data.length≤1000000)→∀t∈r'.todo,t∈r.todo∨okt t
theorem Fit.same {r r':zCT} (h:r'.todo=r.todo):Fit r r':=fun _ t ht=>.inl (h▸ht)
theorem Fit.fail (e:Int) (r:zCT):Fit r (wC e r):=.same rfl
theorem Fit.add (s:Txt) (r:zCT):Fit r (wW s r):=by unfold wW;split<;>exact .same rfl
theorem Fit.lines (l:List Txt) (r:zCT):Fit r (kS l r):=fun hk t ht=>Fit.add _ { r with buf:=[] } hk t ht
theorem Fit.co (k:CoV) (x:KnV) (r:zCT) (hx:x.is=true→x.data.length≤1000000):Fit r (coR k x r):=by
 cases hi:x.is with
 | false =>
  cases k with
  | tr=>rw[show coR .tr x r=r by simp[coR,hi]];exact .same rfl
  | there t=>rw[show coR (.there t) x r=wC 10 r by simp[coR,hi]];exact .fail _ _
 | true =>
  cases k with
  | tr=>rw[show coR .tr x r=wW x.data r by simp[coR,hi]];exact .add _ _
  | there t=>cases t with
   | add=>rw[show coR (.there .add) x r=wW x.data r by simp[coR,hi,thR]];exact .add _ _
   | scan w =>
    rw[show coR (.there (.scan w)) x r={ r with todo:=r.todo++(z7 x.data).reverse.map fun s=>.line s w } by simp[coR,hi,thR]]
    intro _ t ht
    rcases List.mem_append.1 ht with ht|ht
    ·exact .inl ht
    ·obtain⟨s,hs,rfl⟩:=List.mem_map.1 ht
     right
     have:=W3 (List.mem_reverse.1 hs)
     have:=hx hi
     show s.length≤1000000
     omega
theorem Fit.ask (p:Txt) (k:CoV) (r:zCT):Fit r (Q6 p k r):=by
 intro hk
 unfold Q6
 split
 ·rename_i x hx
  exact Fit.co k x r (hk x (KP hx).1) hk
 ·split
  ·exact Fit.fail _ _ hk
  ·intro t ht
   rcases List.mem_append.1 ht with ht|ht
   ·exact .inl ht
   ·rw[List.mem_singleton.1 ht];exact .inr trivial
theorem Fit.scan (p w:Txt) (r:zCT):Fit r (ZL p w r):=fun hk t ht=>Fit.ask p (.there (.scan w)) { r with seen:=r.seen++[p] } hk t ht
theorem Fit.line (s w:Txt) (r:zCT):Fit r (Z1 s w r):=by
 unfold Z1
 split
 ·split
  ·exact .add _ _
  split
  ·exact .same rfl
  ·exact .scan _ _ _
 ·exact .add _ _
theorem Fit.turn (n a:Txt) (r:zCT):Fit r (wK n a r):=by
 unfold wK
 split
 ·exact .lines _ _
 split
 ·exact .lines _ _
 split
 ·exact .same rfl
 split
 ·exact .same rfl
 split
 ·exact .lines _ _
 ·exact .same rfl
theorem Fit.cmd (c:CmdV) (r:zCT):Fit r (doR c r):=by
 unfold doR
 simp only
 split
 ·exact .ask _ _ _
 split
 ·exact .ask _ _ _
 split
 ·exact fun hk t ht=>Fit.scan _ _ { r with seen:=[] } hk t ht
 split
 ·exact .add _ _
 split
 ·split
  ·exact .add _ _
  ·exact .fail _ _
 split
 ·exact .same rfl
 split
 ·split
  ·exact .same rfl
  ·exact .fail _ _
 split
 ·exact .fail _ _
 ·exact .turn _ _ _
theorem zgv {r:zCT} (hk:∀k∈r.known,k.is=true→k.data.length≤1000000) (ho:∀t∈r.todo,okt t):∀t∈(QL r).todo,okt t:=by
 rcases List.eq_nil_or_concat r.todo with ht|⟨l,t,ht⟩
 ·rw[KT ht];exact ho
 ·rw[List.concat_eq_append]at ht
  rw[KV ht]
  have hl:∀x∈l,okt x:=fun x hx=>ho x (by rw[ht];simp[hx])
  have go:∀ {r'},Fit { r with todo:=l } r'→∀x∈r'.todo,okt x:=fun h x hx=>(h hk x hx).elim (hl x) id
  cases t with
  | cmd c=>exact go (.cmd _ _)
  | line s w=>exact go (.line _ _ _)
  | ans k p =>
   refine go (.co _ _ _ ?_)
   cases hf:zQ r.known p with
   | none=>simp[hf,kn0]
   | some x=>simpa[hf]using hk x (KP hf).1
structure wH (r:zCT):Prop where
 inv:JF r
 ok:∀t∈r.todo,okt t
 en:r.env.length≤1000000000
 ev:∀x∈r.env,x.2.length≤1000000000000000
theorem JF.s {r:zCT} (h:JF r):r.known.length≤500∧(∀k∈r.known,k.is=true→k.data.length≤1000000)∧r.buf.length≤65536∧r.todo.length≤700000000:=by
 rcases h with⟨h,_⟩|⟨l,k,p,e,h,_⟩
 ·exact⟨h.nk,h.dat,h.buf,by have:=h.len;omega⟩
 ·refine⟨h.nk,h.dat,h.buf,?_⟩
  have:=h.len
  rw[e]
  simp only[List.length_append,List.length_cons,List.length_nil]at this ⊢
  omega
theorem wH.step {r:zCT} (h:wH r) (hs:kL r=false):wH (QL r):=by
 obtain⟨h1,_,h3⟩:=gV h.inv hs
 have he:=(zgh r).en
 exact⟨h1,zgv h.inv.s.2.1 h.ok,by rw[he];exact h.en,by rw[he];exact h.ev⟩
theorem wH.runN:∀(n:Nat) {r r':zCT},runN n r=some r'→wH r→wH r'
 | 0,r,r',h,_=>by cases h
 | n+1,r,r',h,hg=>by
  rw[Go.Proofs.YtcgpcfcbienapaaGreatDoor.runN]at h
  by_cases hs:kL r=true
  ·rw[if_pos hs]at h;cases h;exact hg
  ·rw[if_neg hs]at h
   exact wH.runN n h (hg.step (by simpa using hs))
theorem wH.settle {r:zCT} (h:wH r):wH (kI r):=wH.runN _ (yW h.inv).1 h
theorem zeQ (c:CmdV):(zK c).er=zK c:=by simp[zK,AV.er,AV.ers,AV.ers_eq,strs,Function.comp_def]
theorem zl7 (R br bc:Nat) {c:CmdV} (hc:OKC c) (h1:c.rest.length≤1000000) (h2:∀w∈c.words,w.length≤1000000) {r:zCT} {p:zY} (hp:p.OK R r) (hbr:(br,zA R)∈p.S) (hbc:(bc,kJ c)∈p.S) (hb:RB r) (hbl:r.buf.length≤65536) (hcm:∀t∈r.todo,isC t=true) (hen:r.env.length≤1000000000) (hev:∀x∈r.env,x.2.length≤1000000000000000) :
  q7 Tryz.prog 65 [.av .ptr (.ptr br .ptr []),.av .ptr (.ptr bc QE [])] (p.core R r) fun y H'=>y=.tup []∧z6 R (doR c r) H':=by
 have hH:z6 R r (p.core R r):=⟨p,hp,rfl⟩
 have hdo:=doH R hc h1 h2 hp hb hbl hcm hen hev
 have her:=hH.er
 obtain⟨H,hHe⟩:∃H,H=p.core R r:=⟨_,rfl⟩
 have hm:(br,zA R)∈H:=hHe▸zY.memS hbr
 have hm2:(bc,kJ c)∈H:=hHe▸zY.memS hbc
 rw[←hHe]at hH her hdo ⊢
 refine q7.nodup fun hnd=>?_
 have hne:br≠bc:=Y4 hnd hm hm2 (by simp[zA,kJ])
 have hne':¬bc=br:=fun e=>hne e.symm
 obtain⟨rest,hpm⟩:=zk9 hm hm2 hne
 refine q7.sub (R:=fun y H'=>y=.tup []∧∃H2,Ab.HSub H2 H'∧z6 R (doR c r) H2) ?_ fun y H' ⟨h1,H2,h2,h3⟩ _=>⟨H2,h2,h1,h3⟩
 refine q7.perm hpm ?_
 refine zov Tryz.func65 cf0 fun imm0 w0=>?_
 simp (disch:=omega) [zz,zA,kJ,hne,hne']
 refine qE (R:=fun y H'=>y=.tup []∧z6 R (doR c r) H') H [] (by simpa[zA,kJ]using hpm.symm) rfl (by simp[qQ]) (by simp) ?_ ?_
 ·rw[her]
  simpa[TV.er,AV.er,zeQ]using hdo
 rintro y H' ⟨rfl,hh⟩ _
 refine⟨H',by simpa using HSub.refl _,?_⟩
 have hhe:=hh.er
 simp (disch:=omega) [zz,Tryz.f65,hhe]
 exact⟨H',HSub.refl _,hh⟩
theorem zpo (R:Nat) {t:TdV} {v:AV} {r:zCT} {p:zY} (hp:p.OK R r) (ht:zDS R p.q p.S t v) (hot:okt t) (hb:RB r) (hbl:r.buf.length≤65536) (hcm:isC t=true→∀t∈r.todo,isC t=true) (hen:r.env.length≤1000000000) (hev:∀x∈r.env,x.2.length≤1000000000000000) :
  VC1 v [] (p.core R r) fun y H'=>y=.tup []∧z6 R (tdR t r) H':=by
 cases t with
 | cmd c =>
  obtain⟨br,bc,rfl,h1,h2⟩:=ht
  obtain⟨o1,o2,o3⟩:=hot
  exact⟨[.av .ptr (.ptr br .ptr []),.av .ptr (.ptr bc QE [])],rfl,by simp,zl7 R br bc o1 o2 o3 hp h1 h2 hb hbl (hcm rfl) hen hev⟩
 | ans k pth =>
  obtain⟨bt,br,bp,kv,rfl,h1,h2,h3,h4⟩:=ht
  exact⟨[.av .ptr (.ptr bt .func []),.av .ptr (.ptr br .ptr []),.av .ptr (.ptr bp .str [])],rfl,by simp,zmN R bt br bp k kv pth hp h1 h2 h3 h4 hb⟩
 | line s w =>
  obtain⟨Q,bs,bw,br,bm,hq,rfl,hn,h1,h2,h3,h4⟩:=ht
  exact⟨[.av .ptr (.ptr bs .str []),.av .ptr (.ptr bw .str []),.av .ptr (.ptr br .ptr []),.av .ptr (.ptr bm YR [])],rfl,by simp,zi5 R Q bs bw br bm s w hp hq hn h1 h2 h3 h4 hot hb⟩
theorem znk {c:Ctx} {code:Code} {K:Exit→St→Prop} {s:St} (h:s.H.keys.Nodup→AT c code K s):AT c code K s:=fun a w g β hS=>h hS.rep.nodup a w g β hS
abbrev zhw:Cfg:=⟨fun _=>false,fun n=>n==1000004||n==51⟩
set_option maxHeartbeats 8000000 in
theorem zaH (R:Nat) {r:zCT} {H:q8} (hH:z6 R r H) (hg:wH r) :
  q7 Tryz.prog 75 [.av .ptr (.ptr R kQ [])] H fun y H'=>y=.tup []∧z6 R (kI r) H':=by
 have hsp:=(yW hg.inv).1
 obtain⟨rf,hrf⟩:∃rf,rf=kI r:=⟨_,rfl⟩
 rw[←hrf]at hsp ⊢
 have her:=hH.er
 refine q7.sub (R:=fun y H'=>y=.tup []∧∃H2,Ab.HSub H2 H'∧z6 R rf H2) ?_ fun y H' ⟨h1,H2,h2,h3⟩ _=>⟨H2,h2,h1,h3⟩
 refine zov Tryz.func75 zhw fun imm0 w0=>?_
 simp (disch:=omega) [zz]
 refine AT.loop' (α:=Nat × zCT × q8) (fun x=>St.of [(0,.av .ptr (.ptr R kQ []))] [] (fun _=>0) x.2.2)
  (fun x=>runN x.1 x.2.1=some rf∧wH x.2.1∧z6 R x.2.1 x.2.2) (fun x=>x.1) (MR r+2,r,H) ?_ ?_ ?_
 ·apply Le.of<;>simp[qU,qG]
 ·exact⟨hsp,hg,hH⟩
 rintro⟨n,ra,H1⟩ ⟨hn,hg1,hH1⟩ KL hN hE
 simp only at hn hg1 hH1 hN
 obtain⟨p,hp,rfl⟩:=hH1
 have hera:=(show z6 R ra (p.core R ra) from⟨p,hp,rfl⟩).er
 obtain⟨rest,hrest⟩:∃rest,rest=w5 p ra:=⟨_,rfl⟩
 have hco:=jB p R ra
 rw[←hrest]at hco
 have her3:=hera
 rw[hco,q8.er_cons]at her3
 have e6:=(List.cons.inj her3).2
 obtain⟨_,e2⟩:=hp.todo.er hp.tds
 have e3:=zV ra.env
 cases n with
 | zero=>cases hn
 | succ n =>
 rw[Go.Proofs.YtcgpcfcbienapaaGreatDoor.runN]at hn
 by_cases hs:kL ra=true
 ·rw[if_pos hs]at hn
  have hn':=Option.some.inj hn
  subst hn'
  rw[hco]
  by_cases hk:ra.over.kind=0
  ·have hw:ra.waits=true:=by
    unfold kL at hs;simpa[hk]using hs
   refine qM (cf:=zhw) laid mixed _ _ _ (by kernel_rfl) ?_
   simp (disch:=omega) [zz,qW,jG,hk,hw]
   refine hE _ _ (by simp) ?_
   simp (disch:=omega) [zz,e2,e3,e6,Tryz.f75]
   refine⟨p.core R ra,?_,p,hp,rfl⟩
   rw[hco]
   simp only[qW,jG,hk,hw]
   exact HSub.refl _
  ·refine qM (cf:=zhw) laid mixed _ _ _ (by kernel_rfl) ?_
   simp (disch:=omega) [zz,qW,jG,hk]
   refine hE _ _ (by simp) ?_
   simp (disch:=omega) [zz,e2,e3,e6,Tryz.f75]
   refine⟨p.core R ra,?_,p,hp,rfl⟩
   rw[hco]
   simp only[qW,jG]
   exact HSub.refl _
 ·rw[if_neg hs]at hn
  obtain⟨hk,hw⟩:=zaK hs
  have hlen:=hp.tds.len
  have hsb:=hg1.inv.s
  have endc:∀ta':AV,p.ta=ta'→ra.todo=[]→z6 R rf ((R,qW ta' (zS ra.env) ra.buf p.K ra.asks ra.waits ⟨3,[],[],0⟩)::rest):=by
   intro ta' hta ht
   have h1:QL ra={ ra with over:=⟨3,[],[],0⟩ }:=KT ht
   have h2:rf=QL ra:=by
    have hst:kL (QL ra)=true:=by rw[h1];simp[kL]
    cases n with
    | zero=>cases hn
    | succ n=>rw[Go.Proofs.YtcgpcfcbienapaaGreatDoor.runN,if_pos hst]at hn;exact(Option.some.inj hn).symm
   rw[h2,h1]
   refine⟨p,⟨hp.todo,hp.seen,hp.box,hp.tds⟩,?_⟩
   rw[jB,hrest,←hta];rfl
  rcases hp.todo with⟨hfs,hta,hTA⟩|⟨T,cap,j,hj,hta,hcap,hTA⟩
  ·have ht:ra.todo=[]:=List.length_eq_zero_iff.1 (by rw[hlen,hfs];rfl)
   have hend:=endc _ rfl ht
   rw[hco]
   rw[hta]at hend e2 ⊢
   refine qM (cf:=zhw) laid mixed _ _ _ (by kernel_rfl) ?_
   simp (disch:=omega) [zz,qW,jG,hk,hw]
   refine hE _ _ (by simp) ?_
   simp (disch:=omega) [zz,e3,e6,Tryz.f75]
   refine⟨_,?_,hend⟩
   simp only[qW,jG,hw]
   exact HSub.refl _
  ·by_cases hz:p.fs.length=0
   ·have ht:ra.todo=[]:=List.length_eq_zero_iff.1 (by rw[hlen,hz])
    have hend:=endc _ rfl ht
    rw[hco]
    rw[hta,hz]at hend e2 ⊢
    refine qM (cf:=zhw) laid mixed _ _ _ (by kernel_rfl) ?_
    simp (disch:=omega) [zz,qW,jG,hk,hw]
    refine hE _ _ (by simp) ?_
    simp (disch:=omega) [zz,e3,e6,Tryz.f75]
    refine⟨_,?_,hend⟩
    simp only[qW,jG,hw]
    exact HSub.refl _
   ·rcases List.eq_nil_or_concat ra.todo with ht|⟨l,t,ht⟩
    ·rw[ht]at hlen;exact absurd hlen.symm hz
    rw[List.concat_eq_append]at ht
    have htds:=hp.tds
    rw[ht]at htds
    obtain⟨us,v,hfs,htl,htv⟩:=yN.snoc htds
    have hstep:=KV ht
    obtain⟨rest2,hrest2⟩:∃rest2:q8,rest2=p.QH++p.S:=⟨_,rfl⟩
    have hco2:p.core R ra=(R,qW p.ta (zS ra.env) ra.buf p.K ra.asks ra.waits ra.over)::(p.K,.map 9 33 (knE ra.known))::(T,.var (.arr cap 1) (.agg (us++(v::j))))::rest2:=by
     rw[hrest2];simp only[zY.core,hTA,hfs,List.append_assoc,List.singleton_append,List.cons_append,List.nil_append]
    obtain⟨p1,hp1e⟩:∃p1:zY,p1={ p with fs:=us,ta:=.msl T 1 0 us.length cap,TA:=[(T,.var (.arr cap 1) (.agg (us++(v::j))))] }:=⟨_,rfl⟩
    have hul:p.fs.length=us.length+1:=by rw[hfs];simp
    have hp1:p1.OK R { ra with todo:=l }:=by
     rw[hp1e]
     refine⟨.inr ⟨T,cap,v::j,JK.cons htv.erk hj,rfl,by simp only[List.length_cons];omega,rfl⟩,hp.seen,hp.box,htl⟩
    have hco3:p1.core R { ra with todo:=l }=(R,qW (.msl T 1 0 us.length cap) (zS ra.env) ra.buf p.K ra.asks ra.waits ra.over)::(p.K,.map 9 33 (knE ra.known))::(T,.var (.arr cap 1) (.agg (us++(v::j))))::rest2:=by
     rw[hrest2,hp1e];simp only[zY.core,List.singleton_append,List.cons_append,List.nil_append]
    have htd:=zpo R hp1 (by rw[hp1e];exact htv) (hg1.ok t (by rw[ht];simp)) ⟨by simp only;omega,by have:=hsb.2.2.2;rw[ht]at this;simp only[List.length_append,List.length_cons,List.length_nil]at this ⊢;omega,hsb.2.1,by simp only;omega⟩ hsb.2.2.1 ?_ hg1.en hg1.ev
    rotate_left
    ·intro hc
     rcases hg1.inv with⟨h,_⟩|⟨l',k',p',e',h,_⟩
     ·rcases h.pop ht with⟨_,h2,_⟩|⟨h1,_⟩
      ·exact h2
      ·cases t<;>simp[isC,isL]at hc h1
     ·rw[ht]at e'
      obtain⟨_,h6⟩:=List.append_inj' e' rfl
      cases h6
      simp[isC]at hc
    have her2:=(show z6 R { ra with todo:=l } (p1.core R { ra with todo:=l }) from⟨p1,hp1,rfl⟩).er
    rw[hco3]at htd her2
    refine znk fun hnd=>?_
    rw[hco2]at hnd ⊢
    simp only[St.of,q8.keys,List.map_cons,List.nodup_cons,List.mem_cons,not_or]at hnd
    obtain⟨⟨n1,n2,_⟩,⟨n3,_⟩,_⟩:=hnd
    have sy:∀ {a b:Nat},¬a=b→¬b=a:=fun h e=>h e.symm
    have n1':=sy n1;have n2':=sy n2;have n3':=sy n3
    have hg:(us++v::j)[us.length]?=some v:=by simp
    have hin:us.length<cap:=by omega
    have hnz:¬(us.length:Int)+1=0:=by omega
    rw[hta,hul]
    refine qM (cf:=zhw) laid mixed _ _ _ (by kernel_rfl) ?_
    simp (disch:=omega) [zz,qW,jG,hk,hw,n1,n2,n3,n1',n2',n3',hnz,hg,hin]
    refine⟨by omega,?_⟩
    refine jW.ofK [0,1,2,3,4,5,6,7,8,9,10,11,12,13,14] [] [] (by kernel_rfl) ?_
    simp (disch:=omega) [zz,n1,n2,n3,n1',n2',n3']
    (repeat with_reducible refine om ?_)
    refine ZG (R:=fun y H'=>y=.tup []∧z6 R (tdR t { ra with todo:=l }) H') ((R,qW (.msl T 1 0 us.length cap) (zS ra.env) ra.buf p.K ra.asks ra.waits ra.over)::(p.K,.map 9 33 (knE ra.known))::(T,.var (.arr cap 1) (.agg (us++(v::j))))::rest2) [] ?_ her2 (by simp[qQ]) (by simpa using htd) ?_
    ·rw[List.append_nil]
     simp only[qW,jG,hk,hw]
     exact List.Perm.refl _
    rintro y H' ⟨rfl,hh⟩ _
    refine⟨H',by simpa using HSub.refl _,?_⟩
    rw[←hstep]at hh
    simp (disch:=omega) [zz]
    refine hN _ (n,QL ra,H') ?_ ⟨hn,hg1.step (by simpa using hs),hh⟩ (by simp only;omega)
    apply Le.of<;>simp[qU,qG]
end Go.Proofs.YtcgpcfcbienapaaGreatDoor
end
