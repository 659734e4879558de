/- The buffer is turned into another one: as a tool. No condition beyond each theorem's own. -/
import Derived.Test.YtooipdkilgpojaaGreatDoorKT6
import Derived.Test.YtooipdkilgpojaaGreatDoorGB4ToKT3
import Derived.Test.YtooipdkilgpojaaGreatDoorKM
set_option linter.unusedSimpArgs false
set_option linter.unusedVariables false
set_option linter.unusedSectionVars false
section
set_option maxRecDepth 100000
namespace Go.Proofs.YtooipdkilgpojaaGreatDoor
open Go Go.Ab
open Classical
variable [Sel] [SelPow] [SelMax]
theorem JE (x:Txt) (b:List Txt):jF (x::b)=x++[10]++jF b:=by simp[jF]
theorem zaw {a b:List Txt} (h:a.Sublist b):(jF a).length≤(jF b).length:=by
 induction h with
 | slnil=>simp[jF]
 | cons x _ ih=>rw[JE];simp only[List.length_append];omega
 | cons_cons x _ ih=>rw[JE,JE];simp only[List.length_append];omega
theorem zf0 {a b:List Txt} (h:a.Perm b):(jF a).length=(jF b).length:=(h.flatMap_right _).length_eq
theorem zaN:∀l:List Txt,(kF l).Sublist l
 | []=>.slnil
 | [x]=>by simp[kF]
 | x::y::r=>by
  have:=zaN (y::r)
  unfold kF
  split
  ·exact this.cons _
  ·exact this.cons_cons _
theorem GO (c:UInt8):∀l,(jF (qT c l)).length=l.length+1
 | []=>by simp[qT,jF]
 | b::l=>by
  have ih:=GO c l
  have hne:=JJ c l
  unfold qT
  split
  ·rw[JE];simp only[List.length_append,List.length_cons,List.length_nil,ih];omega
  ·cases hs:qT c l with
   | nil=>exact absurd hs hne
   | cons y q =>
    rw[hs,JE]at ih
    rw[JE]
    simp only[List.length_append,List.length_cons,List.length_nil]at ih ⊢
    omega
theorem zdT (l:Txt):(jF (z7 l)).length≤l.length+1:=by
 unfold z7
 split
 ·simp[jF]
 ·rw[GO]
  have:=XY l [10]
  omega
theorem X7 (l:List Txt) (ta ea:AV) (K:Nat) (r:y3):X9 (jF l) ta ea K r.asks r.waits r.over=qW ta ea (kS l r).buf K r.asks r.waits (kS l r).over:=by
 unfold X9 kS wW
 simp only[List.length_nil,Nat.zero_add]
 have:(l.flatMap (·++[10]))=jF l:=rfl
 rw[this]
 split<;>simp[wC]
theorem XN (R:Nat) {args:List TV} {r:y3} {p:zY} (hp:p.OK R r) (rowH:q8) (obj:HObj) (r':y3) (hr:kM r r') (ho:obj=qW p.ta (zS r.env) r'.buf p.K r.asks r.waits r'.over)
  (hc:q7 Tryz.prog 89 args ((R,qW p.ta (zS r.env) r.buf p.K r.asks r.waits r.over)::rowH) fun y H'=>y=.tup []∧H'=[(R,obj)]) :
  q7 Tryz.prog 89 args (p.core R r++rowH) fun y H'=>y=.tup []∧z6 R r' H':=by
 refine q7.use (rest:=(p.K,.map 9 57 (knE r.known))::(p.TA++(p.QH++p.S))) ?_ hc ?_
 ·refine List.perm_iff_count.2 fun a=>?_
  simp only[zY.core,List.count_append,List.count_cons]
  omega
 rintro x H' ⟨rfl,rfl⟩ _
 refine⟨_,HSub.refl _,rfl,p,⟨hp.todo,by rw[hr.se];exact hp.seen,hp.box,by rw[hr.td];exact hp.tds⟩,?_⟩
 rw[ho]
 simp only[zY.core,hr.en,hr.ak,hr.wa,hr.kn,List.cons_append,List.nil_append]
theorem zn1 (R:Nat) (name arg:Txt) {r:y3} {p:zY} (hp:p.OK R r) (v:AV) (rowH:q8) (hrow:KF (z7 r.buf) v rowH) (hb:r.buf.length≤65536) (hnm:name=wP∨name=y4∨name=kV∨name=kY∨name=wQ) :
  q7 Tryz.prog 89 [.av .ptr (.ptr R kQ []),.av .str (.s name),.av .str (.s arg),.av (.slice 9) v] (p.core R r++rowH) fun y H'=>y=.tup []∧z6 R (wK name arg r) H':=by
 obtain⟨_,e2⟩:=hp.todo.er hp.tds
 have e3:=zV r.env
 have hj:=zdT r.buf
 have hn:=ZE r.buf
 have hst:=kM.turn name arg r hb
 rcases hnm with rfl|rfl|rfl|rfl|rfl
 ·have e:wK wP arg r=kS (kK (z7 r.buf)) r:=by simp[wK]
  rw[e]at hst ⊢
  refine XN R hp rowH _ _ hst (X7 _ _ _ _ r) (zhh R arg _ v rowH hrow (by omega) _ _ _ _ _ _ _ e2 e3 ?_)
  rw[zf0 (W0 _)];omega
 ·have e:wK y4 arg r=kS (kF (z7 r.buf)) r:=by simp[wK,wP,y4]
  rw[e]at hst ⊢
  refine XN R hp rowH _ _ hst (X7 _ _ _ _ r) (zgx R arg _ v rowH hrow (by omega) _ _ _ _ _ _ _ e2 e3 ?_)
  have:=zaw (zaN (z7 r.buf));omega
 ·have e:wK kV arg r={ r with buf:=r.buf.map upB }:=by simp[wK,wP,y4,kV]
  rw[e]at hst ⊢
  exact XN R hp rowH _ _ hst rfl (zeP R arg _ v rowH hrow _ _ _ (by omega) _ _ _ _ e2 e3)
 ·have e:wK kY arg r={ r with buf:=Lib.itoa (z7 r.buf).length++[10] }:=by simp[wK,wP,y4,kV,kY]
  rw[e]at hst ⊢
  exact XN R hp rowH _ _ hst rfl (zeB R arg _ v rowH hrow (by omega) _ _ _ _ _ _ _ e2 e3)
 ·have e:wK wQ arg r=kS ((z7 r.buf).filter fun s=>Lib.contains s arg) r:=by simp[wK,wP,y4,kV,kY,wQ]
  rw[e]at hst ⊢
  refine XN R hp rowH _ _ hst (X7 _ _ _ _ r) (zht R arg _ v rowH hrow (by omega) (fun x hx=>by have:=W3 hx;omega) _ _ _ _ _ _ _ e2 e3 ?_)
  exact Nat.le_trans (zaw List.filter_sublist) (by omega)
noncomputable def w5 (p:zY) (r:y3):q8:=(p.K,.map 9 57 (knE r.known))::(p.TA++(p.QH++p.S))
theorem jB (p:zY) (R:Nat) (r:y3):p.core R r=(R,qW p.ta (zS r.env) r.buf p.K r.asks r.waits r.over)::w5 p r:=rfl
theorem xN (l:Txt) (hl:l.length≤65536):PC Tryz.prog 76 [.av .str (.s l)] (.av (.slice 9) (.sl .no (strs (z7 l)))):=PG l (by omega)
abbrev CV:Cfg:=⟨fun n=>n==2||n==3||n==4,fun n=>n==1000008||n==2000039||n==40||n==1000012||n==2000055||n==56||n==1000019||n==85||n==1000021||n==96||n==1000006||n==31⟩
set_option maxHeartbeats 8000000 in
theorem zkO (R:Nat) (pth rs:Txt) {r:y3} {p:zY} (hp:p.OK R r) (hb:RB r) (hbl:r.buf.length≤65536) :
  q7 Tryz.prog 44 [.av .ptr (.ptr R kQ []),.av QE (zK ⟨[zZ,pth],rs⟩)] (p.core R r) fun y H'=>y=.tup []∧z6 R (Q6 pth (.there .add) r) H':=by
 have her:=(show z6 R r (p.core R r) from⟨p,hp,rfl⟩).er
 refine q7.sub (R:=fun y H'=>y=.tup []∧∃H2,Ab.HSub H2 H'∧z6 R (Q6 pth (.there .add) r) H2) ?_ fun y H' ⟨h1,H2,h2,h3⟩ _=>⟨H2,h2,h1,h3⟩
 obtain⟨rest,hrest⟩:∃rest,rest=w5 p r:=⟨_,rfl⟩
 have hco:=jB p R r
 rw[←hrest]at hco
 rw[hco]
 refine zov Tryz.func44 CV fun imm0 w0=>?_
 (simp (maxSteps:=2000000) (disch:=first|omega|assumption) [zz,-List.reduceReplicate,zK,strs,zZ])
 intro b2 m1 m2 b3 o0 o1 o2 b4 q0 q1 q2 q3
 have sy:∀ {a b:Nat},¬a=b→¬b=a:=fun h e=>h e.symm
 have m1':=sy m1;have o0':=sy o0;have o1':=sy o1;have q0':=sy q0;have q1':=sy q1;have q2':=sy q2
 simp (disch:=omega) [zz,qW,m1,m1',o0,o0',o1,o1',q0,q0',q1,q1',q2,q2']
 refine zcv (xN r.buf hbl) ?_
 simp (disch:=omega) [zz,qW,m1,m1',o0,o0',o1,o1',q0,q0',q1,q1',q2,q2']
 refine jW.ofK [0,1,2,3,4,5,6] [0,1] [b2,b4] (by kernel_rfl) ?_
 simp (disch:=omega) [zz,zA,m1,m1',o0,o0',o1,o1',q0,q0',q1,q1',q2,q2']
 (repeat with_reducible refine om ?_)
 obtain⟨tv,htv⟩:∃tv:AV,tv=.bm 81 [.ptr R kQ []]:=⟨_,rfl⟩
 obtain⟨H1,hH1⟩:∃H1:q8,H1=(b4,zF pth)::(b3,kJ ⟨[zZ,pth],rs⟩)::(b2,zA R)::(R,qW p.ta (zS r.env) r.buf p.K r.asks r.waits r.over)::rest:=⟨_,rfl⟩
 refine qE (R:=fun y H'=>∃br bt,y=.av .func (.fn 127 [.ptr br .ptr [],.ptr bt .func []])∧H'=[(bt,.var .func tv),(br,zA R)]) [] H1 (by rw[hH1];simp[zF,zA,kJ,zK,strs,zZ,qW]) rfl (by simp[qQ]) (by simp) ?_ ?_
 ·have:=zdh R tv (by rw[htv];rfl) (by rw[htv];rfl)
  rw[←htv]
  simpa[TV.er,AV.er,htv]using this
 rintro y H' ⟨br,bt,rfl,rfl⟩ hnd3
 refine⟨_,HSub.refl _,?_⟩
 rw[hH1]at hnd3 ⊢
 simp only[q8.keys,List.map_append,List.map_cons,List.map_nil,List.cons_append,List.nil_append,List.nodup_cons,List.mem_cons,not_or]at hnd3
 obtain⟨⟨_,g1,g2,g3,_⟩,⟨g4,g5,g6,_⟩,_⟩:=hnd3
 have g1':=sy g1;have g2':=sy g2;have g3':=sy g3;have g4':=sy g4;have g5':=sy g5;have g6':=sy g6
 simp (disch:=omega) [zz,XC,g1,g1',g2,g2',g3,g3',g4,g4',g5,g5',g6,g6',m1,m1',o0,o0',o1,o1',q0,q0',q1,q1',q2,q2',zF,zA]
 (repeat with_reducible refine om ?_)
 obtain⟨p2,hp2e⟩:∃p2:zY,p2={ p with S:=(bt,yE tv)::(br,zA R)::p.S }:=⟨_,rfl⟩
 have hp2:p2.OK R r:=by
  rw[hp2e]
  refine⟨hp.todo,hp.seen,?_,?_⟩
  ·simp only[q8.er_cons,hp.box,yE,zA,HObj.er_var,AV.erk,htv];rfl
  ·exact hp.tds.mono fun z hz=>by simp[hz]
 have hcok:UX R p2.q p2.S (.there .add) (.fn 127 [.ptr br .ptr [],.ptr bt .func []]):=by
  rw[hp2e]
  exact⟨br,bt,tv,rfl,by simp,by simp,htv⟩
 have hask:=zey R pth (.there .add) _ hp2 hcok hb
 have her2:=(show z6 R r (p2.core R r) from⟨p2,hp2,rfl⟩).er
 refine qE (R:=fun y H'=>y=.tup []∧z6 R (Q6 pth (.there .add) r) H') (p2.core R r) [(b4,zF pth),(b3,kJ ⟨[zZ,pth],rs⟩),(b2,zA R)] ?_ rfl (by simp[qQ]) (by simp) ?_ ?_
 ·rw[hp2e]
  refine List.perm_iff_count.2 fun a=>?_
  simp only[zY.core,hrest,w5,List.count_append,List.count_cons,List.count_nil,QE,kQ,zF,yE,zA,kJ,zK,strs,zZ,qW,List.map_cons,List.map_nil]
  omega
 ·rw[her2]
  simpa[TV.er,AV.er]using hask
 rintro y H' ⟨rfl,hh⟩ _
 refine⟨H',HSub.of_sub (List.sublist_append_left _ _),?_⟩
 have hhe:=hh.er
 simp (disch:=omega) [zz,Tryz.f44,hhe]
 exact⟨H',HSub.refl _,hh⟩
set_option maxHeartbeats 8000000 in
theorem zod (R:Nat) (pth rs:Txt) {r:y3} {p:zY} (hp:p.OK R r) (hb:RB r) (hbl:r.buf.length≤65536) :
  q7 Tryz.prog 44 [.av .ptr (.ptr R kQ []),.av QE (zK ⟨[w8,pth],rs⟩)] (p.core R r) fun y H'=>y=.tup []∧z6 R (Q6 pth .tr r) H':=by
 have her:=(show z6 R r (p.core R r) from⟨p,hp,rfl⟩).er
 refine q7.sub (R:=fun y H'=>y=.tup []∧∃H2,Ab.HSub H2 H'∧z6 R (Q6 pth .tr r) H2) ?_ fun y H' ⟨h1,H2,h2,h3⟩ _=>⟨H2,h2,h1,h3⟩
 obtain⟨rest,hrest⟩:∃rest,rest=w5 p r:=⟨_,rfl⟩
 have hco:=jB p R r
 rw[←hrest]at hco
 rw[hco]
 refine zov Tryz.func44 CV fun imm0 w0=>?_
 (simp (maxSteps:=2000000) (disch:=first|omega|assumption) [zz,-List.reduceReplicate,zK,strs,w8])
 intro b2 m1 m2 b3 o0 o1 o2 b4 q0 q1 q2 q3
 have sy:∀ {a b:Nat},¬a=b→¬b=a:=fun h e=>h e.symm
 have m1':=sy m1;have o0':=sy o0;have o1':=sy o1;have q0':=sy q0;have q1':=sy q1;have q2':=sy q2
 simp (disch:=omega) [zz,qW,m1,m1',o0,o0',o1,o1',q0,q0',q1,q1',q2,q2']
 refine zcv (xN r.buf hbl) ?_
 simp (disch:=omega) [zz,qW,m1,m1',o0,o0',o1,o1',q0,q0',q1,q1',q2,q2']
 obtain⟨p2,hp2e⟩:∃p2:zY,p2={ p with S:=(b2,zA R)::p.S }:=⟨_,rfl⟩
 have hp2:p2.OK R r:=by
  rw[hp2e]
  refine⟨hp.todo,hp.seen,?_,?_⟩
  ·simp only[q8.er_cons,hp.box,zA,HObj.er_var,AV.erk]
  ·exact hp.tds.mono fun z hz=>by simp[hz]
 have hcok:UX R p2.q p2.S .tr (.fn 82 [.ptr b2 .ptr []]):=by
  rw[hp2e]
  exact⟨b2,rfl,by simp⟩
 have hask:=zey R pth .tr _ hp2 hcok hb
 have her2:=(show z6 R r (p2.core R r) from⟨p2,hp2,rfl⟩).er
 refine qE (R:=fun y H'=>y=.tup []∧z6 R (Q6 pth .tr r) H') (p2.core R r) [(b4,zF pth),(b3,kJ ⟨[w8,pth],rs⟩)] ?_ rfl (by simp[qQ]) (by simp) ?_ ?_
 ·rw[hp2e]
  refine List.perm_iff_count.2 fun a=>?_
  simp only[zY.core,hrest,w5,List.count_append,List.count_cons,List.count_nil,QE,kQ,zF,yE,zA,kJ,zK,strs,w8,qW,List.map_cons,List.map_nil]
  omega
 ·rw[her2]
  simpa[TV.er,AV.er]using hask
 rintro y H' ⟨rfl,hh⟩ _
 refine⟨H',HSub.of_sub (List.sublist_append_left _ _),?_⟩
 have hhe:=hh.er
 simp (disch:=omega) [zz,Tryz.f44,hhe]
 exact⟨H',HSub.refl _,hh⟩
end Go.Proofs.YtooipdkilgpojaaGreatDoor
end
section
set_option maxRecDepth 100000
namespace Go.Proofs.YtooipdkilgpojaaGreatDoor
open Go Go.Ab
open Classical
variable [Sel] [SelPow] [SelMax]
set_option maxHeartbeats 8000000 in
theorem zla (R:Nat) (rs:Txt) {r:y3} {p:zY} (hp:p.OK R r) (hb:RB r) (hbl:r.buf.length≤65536) (hrs:rs.length≤1000000) :
  q7 Tryz.prog 44 [.av .ptr (.ptr R kQ []),.av QE (zK ⟨[tText],rs⟩)] (p.core R r) fun y H'=>y=.tup []∧z6 R (wW (rs++[10]) r) H':=by
 have her:=(show z6 R r (p.core R r) from⟨p,hp,rfl⟩).er
 refine q7.sub (R:=fun y H'=>y=.tup []∧∃H2,Ab.HSub H2 H'∧z6 R (wW (rs++[10]) r) H2) ?_ fun y H' ⟨h1,H2,h2,h3⟩ _=>⟨H2,h2,h1,h3⟩
 obtain⟨rest,hrest⟩:∃rest,rest=w5 p r:=⟨_,rfl⟩
 have hco:=jB p R r
 rw[←hrest]at hco
 rw[hco]
 refine zov Tryz.func44 CV fun imm0 w0=>?_
 (simp (maxSteps:=2000000) (disch:=first|omega|assumption) [zz,-List.reduceReplicate,zK,strs,tText])
 intro b2 m1 m2 b3 o0 o1 o2 b4 q0 q1 q2 q3
 have sy:∀ {a b:Nat},¬a=b→¬b=a:=fun h e=>h e.symm
 have m1':=sy m1;have o0':=sy o0;have o1':=sy o1;have q0':=sy q0;have q1':=sy q1;have q2':=sy q2
 simp (disch:=omega) [zz,qW,m1,m1',o0,o0',o1,o1',q0,q0',q1,q1',q2,q2']
 refine zcv (xN r.buf hbl) ?_
 simp (disch:=omega) [zz,qW,m1,m1',o0,o0',o1,o1',q0,q0',q1,q1',q2,q2']
 refine⟨by omega,?_⟩
 refine qE (R:=fun y H'=>y=.tup []∧z6 R (wW (rs++[10]) r) H') (p.core R r) [(b4,zF []),(b3,kJ ⟨[tText],rs⟩),(b2,zA R)] ?_ rfl (by simp[qQ]) (by simp) ?_ ?_
 ·refine List.perm_iff_count.2 fun a=>?_
  simp only[zY.core,hrest,w5,List.count_append,List.count_cons,List.count_nil,QE,kQ,zF,yE,zA,kJ,zK,strs,tText,qW,List.map_cons,List.map_nil]
  omega
 ·rw[her]
  have:=zjg R (rs++[10]) (r:=r) (H:=p.core R r) ⟨p,hp,rfl⟩ hb.buf (by simp;omega)
  simpa[TV.er,AV.er]using this
 rintro y H' ⟨rfl,hh⟩ _
 refine⟨H',HSub.of_sub (List.sublist_append_left _ _),?_⟩
 have hhe:=hh.er
 simp (disch:=omega) [zz,Tryz.f44,hhe]
 exact⟨H',HSub.refl _,hh⟩
set_option maxHeartbeats 8000000 in
theorem zkm (R:Nat) (rs:Txt) {r:y3} {p:zY} (hp:p.OK R r) (hb:RB r) (hbl:r.buf.length≤65536) :
  q7 Tryz.prog 44 [.av .ptr (.ptr R kQ []),.av QE (zK ⟨[yR],rs⟩)] (p.core R r) fun y H'=>y=.tup []∧z6 R (wC 15 r) H':=by
 have her:=(show z6 R r (p.core R r) from⟨p,hp,rfl⟩).er
 refine q7.sub (R:=fun y H'=>y=.tup []∧∃H2,Ab.HSub H2 H'∧z6 R (wC 15 r) H2) ?_ fun y H' ⟨h1,H2,h2,h3⟩ _=>⟨H2,h2,h1,h3⟩
 obtain⟨rest,hrest⟩:∃rest,rest=w5 p r:=⟨_,rfl⟩
 have hco:=jB p R r
 rw[←hrest]at hco
 rw[hco]
 refine zov Tryz.func44 CV fun imm0 w0=>?_
 (simp (maxSteps:=2000000) (disch:=first|omega|assumption) [zz,-List.reduceReplicate,zK,strs,yR])
 intro b2 m1 m2 b3 o0 o1 o2 b4 q0 q1 q2 q3
 have sy:∀ {a b:Nat},¬a=b→¬b=a:=fun h e=>h e.symm
 have m1':=sy m1;have o0':=sy o0;have o1':=sy o1;have q0':=sy q0;have q1':=sy q1;have q2':=sy q2
 simp (disch:=omega) [zz,qW,m1,m1',o0,o0',o1,o1',q0,q0',q1,q1',q2,q2']
 refine zcv (xN r.buf hbl) ?_
 simp (disch:=omega) [zz,qW,m1,m1',o0,o0',o1,o1',q0,q0',q1,q1',q2,q2']
 refine qE (R:=fun y H'=>y=.tup []∧z6 R (wC 15 r) H') (p.core R r) [(b4,zF []),(b3,kJ ⟨[yR],rs⟩),(b2,zA R)] ?_ rfl (by simp[qQ]) (by simp) ?_ ?_
 ·refine List.perm_iff_count.2 fun a=>?_
  simp only[zY.core,hrest,w5,List.count_append,List.count_cons,List.count_nil,QE,kQ,zF,yE,zA,kJ,zK,strs,yR,qW,List.map_cons,List.map_nil]
  omega
 ·rw[her]
  exact q7.args (ze1 R 15 (r:=r) (H:=p.core R r) ⟨p,hp,rfl⟩) (by simp[qS,coC,TV.er,AV.er])
 rintro y H' ⟨rfl,hh⟩ _
 refine⟨H',HSub.of_sub (List.sublist_append_left _ _),?_⟩
 have hhe:=hh.er
 simp (disch:=omega) [zz,Tryz.f44,hhe]
 exact⟨H',HSub.refl _,hh⟩
set_option maxHeartbeats 8000000 in
theorem zjU (R:Nat) (pth rs:Txt) {r:y3} {p:zY} (hp:p.OK R r) (hb:RB r) (hbl:r.buf.length≤65536) :
  q7 Tryz.prog 44 [.av .ptr (.ptr R kQ []),.av QE (zK ⟨[j8,pth],rs⟩)] (p.core R r) fun y H'=>y=.tup []∧z6 R ({ r with over:=⟨2,pth,r.buf,0⟩,buf:=[] }) H':=by
 have her:=(show z6 R r (p.core R r) from⟨p,hp,rfl⟩).er
 refine q7.sub (R:=fun y H'=>y=.tup []∧∃H2,Ab.HSub H2 H'∧z6 R ({ r with over:=⟨2,pth,r.buf,0⟩,buf:=[] }) H2) ?_ fun y H' ⟨h1,H2,h2,h3⟩ _=>⟨H2,h2,h1,h3⟩
 obtain⟨rest,hrest⟩:∃rest,rest=w5 p r:=⟨_,rfl⟩
 have hco:=jB p R r
 rw[←hrest]at hco
 rw[hco]
 refine zov Tryz.func44 CV fun imm0 w0=>?_
 (simp (maxSteps:=2000000) (disch:=first|omega|assumption) [zz,-List.reduceReplicate,zK,strs,j8])
 intro b2 m1 m2 b3 o0 o1 o2 b4 q0 q1 q2 q3
 have sy:∀ {a b:Nat},¬a=b→¬b=a:=fun h e=>h e.symm
 have m1':=sy m1;have o0':=sy o0;have o1':=sy o1;have q0':=sy q0;have q1':=sy q1;have q2':=sy q2
 simp (disch:=omega) [zz,qW,m1,m1',o0,o0',o1,o1',q0,q0',q1,q1',q2,q2']
 refine zcv (xN r.buf hbl) ?_
 simp (disch:=omega) [zz,qW,m1,m1',o0,o0',o1,o1',q0,q0',q1,q1',q2,q2']
 obtain⟨_,e2⟩:=hp.todo.er hp.tds
 have e3:=zV r.env
 have hrer:rest.er=rest:=by
  rw[hco,q8.er_cons]at her
  exact(List.cons.inj her).2
 (repeat with_reducible refine om ?_)
 refine jW.ofK [0,1,2,3,4,5,6,7,8,9] [] [] (by kernel_rfl) ?_
 simp (disch:=omega) [zz,qW,jG,m1,m1',o0,o0',o1,o1',q0,q0',q1,q1',q2,q2']
 (repeat with_reducible refine om ?_)
 simp (disch:=omega) [zz,qW,jG,m1,m1',o0,o0',o1,o1',q0,q0',q1,q1',q2,q2',e2,e3,hrer,Tryz.f44]
 refine⟨p.core R { r with over:=⟨2,pth,r.buf,0⟩,buf:=[] },HSub.of_sub ?_,p,⟨hp.todo,hp.seen,hp.box,hp.tds⟩,rfl⟩
 rw[jB]
 have:w5 p { r with over:=⟨2,pth,r.buf,0⟩,buf:=[] }=rest:=by rw[hrest];rfl
 rw[this]
 simp only[qW,jG]
 exact(((List.Sublist.refl _).cons _).cons _).cons _
end Go.Proofs.YtooipdkilgpojaaGreatDoor
end
section
set_option maxRecDepth 100000
namespace Go.Proofs.YtooipdkilgpojaaGreatDoor
open Go Go.Ab
open Classical
variable [Sel] [SelPow] [SelMax]
@[simp] theorem zAy:qZ Tryz.prog 84=true:=by kernel_rfl
@[simp] theorem zBm:z8 Tryz.prog (.func 84)=false:=q9 zAy
abbrev zri:TyD:=.struct [9,9]
@[simp] theorem zpw (x:Txt × Txt):(Z7 x).er=Z7 x:=rfl
theorem zkK (b:Nat) (arg:Txt) (x:Txt × Txt):q7 Tryz.prog 85 [.av zri (Z7 x),.av .ptr (.ptr b .str [])] [(b,zF arg)] fun r H'=>r=.av .bool (.b (decide (x.1=arg)))∧H'=[(b,zF arg)]:=by
 refine zov Tryz.func85 cf0 fun imm0 w0=>?_
 simp (disch:=omega) [zz,zF,Z7,Tryz.f85]
set_option maxHeartbeats 4000000 in
theorem zim (b:Nat) (arg:Txt) (ts:List (Txt × Txt)) (hn:ts.length≤1000000000) :
  q7 Tryz.prog 84 [.av (.slice 85) (zS ts),.av .func (.fn 85 [.ptr b .str []])] [(b,zF arg)]
   fun r H'=>r=.av (.int .i64) (.i .i64 (J7 (fun x=>decide (x.1=arg)) ts))∧H'=[(b,zF arg)]:=by
 have hbe:(zF arg).er=zF arg:=rfl
 refine zov Tryz.func84 cf0 fun imm0 w0=>?_
 simp (disch:=omega) [zz,zS]
 refine AT.loop' (α:=Nat) (fun k=>St.of [(0,.av (.slice 85) (.sl .no (ts.map Z7))),(1,.av .func (.fn 85 [.ptr b .str []])),(7,.av (.int .i64) (.i .i64 ts.length)),(8,.av (.int .i64) (.i .i64 k))] [] (fun _=>0) [(b,zF arg)])
  (fun k=>k≤ts.length∧∀x∈ts.take k,(fun x:Txt × Txt=>decide (x.1=arg)) x=false) (fun k=>ts.length-k) 0 ?_ ?_ ?_
 ·apply Le.of<;>simp[qU,qG]
 ·simp
 rintro k ⟨hk',hpk⟩ KL hN hE
 refine qM (cf:=cf0) laid mixed _ _ _ (by kernel_rfl) ?_
 by_cases hlt:k<ts.length
 ·have hlt':(k:Int)<ts.length:=by omega
  have hg:(ts.map Z7)[k]?=some (Z7 ts[k]):=by simp[List.getElem?_eq_getElem hlt]
  simp (disch:=omega) [zz,hlt',hg]
  refine qE (R:=fun r' H'=>r'=.av .bool (.b (decide (ts[k].1=arg)))∧H'=[(b,zF arg)]) [(b,zF arg)] [] (by simp) rfl (by simp[qQ]) (by simp) ?_ ?_
  ·rw[q8.er_cons,hbe]
   simpa[TV.er,AV.er]using zkK b arg ts[k]
  rintro r' H' ⟨rfl,rfl⟩ _
  refine⟨[(b,zF arg)],HSub.refl _,?_⟩
  by_cases hpp:ts[k].1=arg
  ·simp (disch:=omega) [zz,hpp]
   refine hE _ _ (by simp) ?_
   simp (disch:=omega) [zz,Tryz.f84,uL (p:=fun x:Txt × Txt=>decide (x.1=arg)) hlt hpk (by simpa using hpp),hbe]
  ·simp (disch:=omega) [zz,hpp]
   refine hN _ (k+1) ?_ ⟨by omega,by rw[Z2 hlt];exact⟨hpk,by simpa using hpp⟩⟩ (by omega)
   apply Le.of<;>simp[qU,qG]
 ·have hlt':¬(k:Int)<ts.length:=by omega
  simp (disch:=omega) [zz,hlt']
  refine hE _ _ (by simp) ?_
  rw[List.take_of_length_le (by omega)]at hpk
  simp (disch:=omega) [zz,Tryz.f84,x9 (p:=fun x:Txt × Txt=>decide (x.1=arg)) hpk,hbe]
set_option maxHeartbeats 8000000 in
theorem znH (R:Nat) (arg rs:Txt) {r:y3} {p:zY} (hp:p.OK R r) (hb:RB r) (hbl:r.buf.length≤65536) (hen:r.env.length≤1000000000) (hev:∀x∈r.env,x.2.length≤1000000000000000) :
  q7 Tryz.prog 44 [.av .ptr (.ptr R kQ []),.av QE (zK ⟨[yO,arg],rs⟩)] (p.core R r) fun y H'=>y=.tup []∧z6 R (match r.env.find? (fun x=>decide (x.1=arg))with|some x=>wW x.2 r|none=>wC 10 r) H':=by
 have her:=(show z6 R r (p.core R r) from⟨p,hp,rfl⟩).er
 refine q7.sub (R:=fun y H'=>y=.tup []∧∃H2,Ab.HSub H2 H'∧z6 R (match r.env.find? (fun x=>decide (x.1=arg))with|some x=>wW x.2 r|none=>wC 10 r) H2) ?_ fun y H' ⟨h1,H2,h2,h3⟩ _=>⟨H2,h2,h1,h3⟩
 obtain⟨rest,hrest⟩:∃rest,rest=w5 p r:=⟨_,rfl⟩
 have hco:=jB p R r
 rw[←hrest]at hco
 rw[hco]
 refine zov Tryz.func44 CV fun imm0 w0=>?_
 (simp (maxSteps:=2000000) (disch:=first|omega|assumption) [zz,-List.reduceReplicate,zK,strs,yO])
 intro b2 m1 m2 b3 o0 o1 o2 b4 q0 q1 q2 q3
 have sy:∀ {a b:Nat},¬a=b→¬b=a:=fun h e=>h e.symm
 have m1':=sy m1;have o0':=sy o0;have o1':=sy o1;have q0':=sy q0;have q1':=sy q1;have q2':=sy q2
 simp (disch:=omega) [zz,qW,m1,m1',o0,o0',o1,o1',q0,q0',q1,q1',q2,q2']
 refine zcv (xN r.buf hbl) ?_
 simp (disch:=omega) [zz,qW,m1,m1',o0,o0',o1,o1',q0,q0',q1,q1',q2,q2']
 obtain⟨q,hq⟩:∃q,q=J7 (fun x:Txt × Txt=>decide (x.1=arg)) r.env:=⟨_,rfl⟩
 have hix:=zim b4 arg r.env hen
 rw[←hq]at hix
 refine qE (R:=fun r' H'=>r'=.av (.int .i64) (.i .i64 q)∧H'=[(b4,zF arg)]) [(b4,zF arg)] ((b3,kJ ⟨[yO,arg],rs⟩)::(b2,zA R)::(R,qW p.ta (zS r.env) r.buf p.K r.asks r.waits r.over)::rest) (by simp[zF,zA,kJ,zK,strs,yO,qW]) rfl (by simp[qQ]) (by simp) ?_ ?_
 ·have e9:=zV r.env
  simpa[TV.er,AV.er,q8.er_cons,zF,HObj.er_var,AV.erk,zS,AV.ers_eq,Function.comp_def]using hix
 rintro r' H' ⟨rfl,rfl⟩ _
 refine⟨_,HSub.refl _,?_⟩
 rcases ze8 (fun x:Txt × Txt=>decide (x.1=arg)) r.env with⟨he,hf⟩|⟨i,hi,he,hf⟩
 ·rw[←hq]at he
  subst he
  simp (disch:=omega) [zz,hf,zF,zA,kJ,zK,strs,qW,m1,m1',o0,o0',o1,o1',q0,q0',q1,q1',q2,q2']
  refine qE (R:=fun y H'=>y=.tup []∧z6 R (wC 10 r) H') (p.core R r) [(b4,zF arg),(b3,kJ ⟨[yO,arg],rs⟩),(b2,zA R)] ?_ rfl (by simp[qQ]) (by simp) ?_ ?_
  ·refine List.perm_iff_count.2 fun a=>?_
   simp only[zY.core,hrest,w5,List.count_append,List.count_cons,List.count_nil,QE,kQ,zF,yE,zA,kJ,zK,strs,yO,qW,List.map_cons,List.map_nil]
   omega
  ·rw[her]
   exact q7.args (ze1 R 10 (r:=r) (H:=p.core R r) ⟨p,hp,rfl⟩) (by simp[qS,coC,TV.er,AV.er])
  rintro y H' ⟨rfl,hh⟩ _
  refine⟨H',HSub.of_sub (List.sublist_append_left _ _),?_⟩
  have hhe:=hh.er
  simp (disch:=omega) [zz,Tryz.f44,hhe]
  exact⟨H',HSub.refl _,hh⟩
 ·rw[←hq]at he
  subst he
  have h0:¬(i:Int)<0:=by omega
  have hil:(i:Int)<r.env.length:=by omega
  have hg:(r.env.map Z7)[i]?=some (Z7 r.env[i]):=by simp[List.getElem?_eq_getElem hi]
  have hvl:=hev _ (List.getElem_mem hi)
  simp (disch:=omega) [zz,h0,zF,zA,kJ,zK,zS,strs,qW,m1,m1',o0,o0',o1,o1',q0,q0',q1,q1',q2,q2']
  refine jW.ofK [0,1,2,3,4,5,6,7,8,9] [] [] (by kernel_rfl) ?_
  simp (disch:=omega) [zz,h0,hf,hil,hg,hi,Z7,m1,m1',o0,o0',o1,o1',q0,q0',q1,q1',q2,q2']
  (repeat with_reducible refine om ?_)
  refine qE (R:=fun y H'=>y=.tup []∧z6 R (wW r.env[i].2 r) H') (p.core R r) [(b4,zF arg),(b3,kJ ⟨[yO,arg],rs⟩),(b2,zA R)] ?_ rfl (by simp[qQ]) (by simp) ?_ ?_
  ·refine List.perm_iff_count.2 fun a=>?_
   simp only[zY.core,hrest,w5,List.count_append,List.count_cons,List.count_nil,QE,kQ,zF,yE,zA,zS,kJ,zK,strs,yO,qW,List.map_cons,List.map_nil]
   omega
  ·rw[her]
   have:=zjg R r.env[i].2 (r:=r) (H:=p.core R r) ⟨p,hp,rfl⟩ hb.buf (by omega)
   simpa[TV.er,AV.er]using this
  rintro y H' ⟨rfl,hh⟩ _
  refine⟨H',HSub.of_sub (List.sublist_append_left _ _),?_⟩
  have hhe:=hh.er
  simp (disch:=omega) [zz,Tryz.f44,hhe]
  exact⟨H',HSub.refl _,hh⟩
end Go.Proofs.YtooipdkilgpojaaGreatDoor
end
