/- The buffer is turned into another one: as a tool. No condition. -/
import Derived.Test.YtdkieabmeiojjaaGreatDoorKT6
import Derived.Test.YtdkieabmeiojjaaGreatDoorGB3ToKS1
set_option linter.unusedSimpArgs false
set_option linter.unusedVariables false
set_option linter.unusedSectionVars false
set_option maxHeartbeats 64000000
set_option maxRecDepth 100000
namespace Go.Proofs.YtdkieabmeiojjaaGreatDoor
open Go Go.Ab
open Classical
section
variable [Sel] [SelPow] [SelMax]
theorem JM (x:Txt) (b:List Txt):j8 (x::b)=x++[10]++j8 b:=by simp[j8]
theorem zbj {a b:List Txt} (h:a.Sublist b):(j8 a).length<=(j8 b).length:=by
 induction h with
 | slnil=>simp[j8]
 | cons x _ ih=>rw[JM];simp only[List.length_append];omega
 | cons_cons x _ ih=>rw[JM,JM];simp only[List.length_append];omega
theorem zfD {a b:List Txt} (h:a.Perm b):(j8 a).length=(j8 b).length:=(h.flatMap_right _).length_eq
theorem zaU:∀l:List Txt,(jJ l).Sublist l
 | []=>.slnil
 | [x]=>by simp[jJ]
 | x::y::r=>by
  have:=zaU (y::r)
  unfold jJ
  split
  ·exact this.cons _
  ·exact this.cons_cons _
theorem P6 (c:UInt8):∀l,(j8 (qK c l)).length=l.length+1
 | []=>by simp[qK,j8]
 | b::l=>by
  have ih:=P6 c l
  have hne:=xG c l
  unfold qK
  split
  ·rw[JM];simp only[List.length_append,List.length_cons,List.length_nil,ih];omega
  ·cases hs:qK c l with
   | nil=>exact absurd hs hne
   | cons y q =>
    rw[hs,JM]at ih
    rw[JM]
    simp only[List.length_append,List.length_cons,List.length_nil]at ih |-
    omega
theorem zdx (l:Txt):(j8 (qU l)).length<=l.length+1:=by
 unfold qU
 split
 ·simp[j8]
 ·rw[P6]
  have:=UH l [10]
  omega
theorem uP (l:List Txt) (ta ea:AV) (K:Nat) (r:qG):uG (j8 l) ta ea K r.asks r.waits r.over=qJ ta ea (kH l r).buf K r.asks r.waits (kH l r).over:=by
 unfold uG kH y6
 simp only[List.length_nil,Nat.zero_add]
 have:(l.flatMap (·++[10]))=j8 l:=rfl
 rw[this]
 split<;>simp[w6]
theorem XQ (R:Nat) {args:List TV} {r:qG} {p:zP} (hp:p.OK R r) (rowH:q8) (obj:HObj) (r':qG) (hr:kC r r') (ho:obj=qJ p.ta (zO r.env) r'.buf p.K r.asks r.waits r'.over)
  (hc:q7 Tryz.prog 153 args ((R,qJ p.ta (zO r.env) r.buf p.K r.asks r.waits r.over)::rowH) fun y H'=>y=.tup []/\H'=[(R,obj)]) :
  q7 Tryz.prog 153 args (p.core R r++rowH) fun y H'=>y=.tup []/\qQ R r' H':=by
 refine q7.use (rest:=(p.K,.map 9 74 (knE r.known))::(p.TA++(p.QH++p.S))) ?_ hc ?_
 ·refine List.perm_iff_count.2 fun a=>?_
  simp only[zP.core,List.count_append,List.count_cons]
  omega
 rintro x H' ⟨rfl,rfl⟩ _
 refine⟨_,HSub.refl _,rfl,p,⟨hp.todo,by rw[hr.se];exact hp.seen,hp.box,by rw[hr.td];exact hp.tds⟩,?_⟩
 rw[ho]
 simp only[zP.core,hr.en,hr.ak,hr.wa,hr.kn,List.cons_append,List.nil_append]
theorem znw (R:Nat) (name arg:Txt) {r:qG} {p:zP} (hp:p.OK R r) (v:AV) (rowH:q8) (hrow:J1 (qU r.buf) v rowH) (hb:r.buf.length<=65536) (hnm:name=wV\/name=yG\/name=kV\/name=wC\/name=y3) :
  q7 Tryz.prog 153 [.av .ptr (.ptr R kO []),.av .str (.s name),.av .str (.s arg),.av (.slice 9) v] (p.core R r++rowH) fun y H'=>y=.tup []/\qQ R (kX name arg r) H':=by
 obtain⟨_,e2⟩:=hp.todo.er hp.tds
 have e3:=zH r.env
 have hj:=zdx r.buf
 have hn:=ZU r.buf
 have hst:=kC.turn name arg r hb
 rcases hnm with rfl|rfl|rfl|rfl|rfl
 ·have e:kX wV arg r=kH (k7 (qU r.buf)) r:=by simp[kX]
  rw[e]at hst |-
  refine XQ R hp rowH _ _ hst (uP _ _ _ _ r) (ziA R arg _ v rowH hrow (by omega) _ _ _ _ _ _ _ e2 e3 ?_)
  rw[zfD (ZO _)];omega
 ·have e:kX yG arg r=kH (jJ (qU r.buf)) r:=by simp[kX,wV,yG]
  rw[e]at hst |-
  refine XQ R hp rowH _ _ hst (uP _ _ _ _ r) (ziN R arg _ v rowH hrow (by omega) _ _ _ _ _ _ _ e2 e3 ?_)
  have:=zbj (zaU (qU r.buf));omega
 ·have e:kX kV arg r={ r with buf:=r.buf.map upB }:=by simp[kX,wV,yG,kV]
  rw[e]at hst |-
  exact XQ R hp rowH _ _ hst rfl (zgh R arg _ v rowH hrow _ _ _ (by omega) _ _ _ _ e2 e3)
 ·have e:kX wC arg r={ r with buf:=Lib.itoa (qU r.buf).length++[10] }:=by simp[kX,wV,yG,kV,wC]
  rw[e]at hst |-
  exact XQ R hp rowH _ _ hst rfl (zf8 R arg _ v rowH hrow (by omega) _ _ _ _ _ _ _ e2 e3)
 ·have e:kX y3 arg r=kH ((qU r.buf).filter fun s=>Lib.contains s arg) r:=by simp[kX,wV,yG,kV,wC,y3]
  rw[e]at hst |-
  refine XQ R hp rowH _ _ hst (uP _ _ _ _ r) (zi3 R arg _ v rowH hrow (by omega) (fun x hx=>by have:=W8 hx;omega) _ _ _ _ _ _ _ e2 e3 ?_)
  exact Nat.le_trans (zbj List.filter_sublist) (by omega)
noncomputable def kY (p:zP) (r:qG):q8:=(p.K,.map 9 74 (knE r.known))::(p.TA++(p.QH++p.S))
theorem zY (p:zP) (R:Nat) (r:qG):p.core R r=(R,qJ p.ta (zO r.env) r.buf p.K r.asks r.waits r.over)::kY p r:=rfl
theorem X2 (l:Txt) (hl:l.length<=65536):PC Tryz.prog 140 [.av .str (.s l)] (.av (.slice 9) (.sl .no (strs (qU l)))):=dU l (by omega)
abbrev zao:Cfg:=⟨fun n=>n==2||n==3||n==4,fun n=>n==1000008||n==2000039||n==40||n==1000012||n==2000055||n==56||n==1000019||n==85||n==1000021||n==96||n==1000006||n==31⟩
theorem zn9 (R:Nat) (pth rs:Txt) {r:qG} {p:zP} (hp:p.OK R r) (hb:RB r) (hbl:r.buf.length<=65536) :
  q7 Tryz.prog 111 [.av .ptr (.ptr R kO []),.av QQ (zE ⟨[zU,pth],rs⟩)] (p.core R r) fun y H'=>y=.tup []/\qQ R (yN pth (.there .add) r) H':=by
 have her:=(show qQ R r (p.core R r) from⟨p,hp,rfl⟩).er
 refine q7.sub (R:=fun y H'=>y=.tup []/\∃H2,Ab.HSub H2 H'/\qQ R (yN pth (.there .add) r) H2) ?_ fun y H' ⟨h1,H2,h2,h3⟩ _=>⟨H2,h2,h1,h3⟩
 obtain⟨rest,hrest⟩:∃rest,rest=kY p r:=⟨_,rfl⟩
 have hco:=zY p R r
 rw[<-hrest]at hco
 rw[hco]
 refine zov Tryz.func111 zao fun imm0 w0=>?_
 (simp (maxSteps:=2000000) (disch:=first|omega|assumption) [zz,-List.reduceReplicate,zE,strs,zU])
 intro b2 m1 m2 b3 o0 o1 o2 b4 q0 q1 q2 q3
 have sy:∀ {a b:Nat},¬a=b->¬b=a:=fun h e=>h e.symm
 have m1':=sy m1;have o0':=sy o0;have o1':=sy o1;have q0':=sy q0;have q1':=sy q1;have q2':=sy q2
 simp (disch:=omega) [zz,qJ,m1,m1',o0,o0',o1,o1',q0,q0',q1,q1',q2,q2']
 refine zcv (X2 r.buf hbl) ?_
 simp (disch:=omega) [zz,qJ,m1,m1',o0,o0',o1,o1',q0,q0',q1,q1',q2,q2']
 refine jO.ofK [0,1,2,3,4,5,6] [0,1] [b2,b4] (by kernel_rfl) ?_
 simp (disch:=omega) [zz,qV,m1,m1',o0,o0',o1,o1',q0,q0',q1,q1',q2,q2']
 (repeat with_reducible refine om ?_)
 obtain⟨tv,htv⟩:∃tv:AV,tv=.bm 145 [.ptr R kO []]:=⟨_,rfl⟩
 obtain⟨H1,hH1⟩:∃H1:q8,H1=(b4,qS pth)::(b3,kA ⟨[zU,pth],rs⟩)::(b2,qV R)::(R,qJ p.ta (zO r.env) r.buf p.K r.asks r.waits r.over)::rest:=⟨_,rfl⟩
 refine qD (R:=fun y H'=>∃br bt,y=.av .func (.fn 172 [.ptr br .ptr [],.ptr bt .func []])/\H'=[(bt,.var .func tv),(br,qV R)]) [] H1 (by rw[hH1];simp[qS,qV,kA,zE,strs,zU,qJ]) rfl (by simp[qE]) (by simp) ?_ ?_
 ·have:=zem R tv (by rw[htv];rfl) (by rw[htv];rfl)
  rw[<-htv]
  simpa[TV.er,AV.er,htv]using this
 rintro y H' ⟨br,bt,rfl,rfl⟩ hnd3
 refine⟨_,HSub.refl _,?_⟩
 rw[hH1]at hnd3 |-
 simp only[q8.keys,List.map_append,List.map_cons,List.map_nil,List.cons_append,List.nil_append,List.nodup_cons,List.mem_cons,not_or]at hnd3
 obtain⟨⟨_,g1,g2,g3,_⟩,⟨g4,g5,g6,_⟩,_⟩:=hnd3
 have g1':=sy g1;have g2':=sy g2;have g3':=sy g3;have g4':=sy g4;have g5':=sy g5;have g6':=sy g6
 simp (disch:=omega) [zz,XT,g1,g1',g2,g2',g3,g3',g4,g4',g5,g5',g6,g6',m1,m1',o0,o0',o1,o1',q0,q0',q1,q1',q2,q2',qS,qV]
 (repeat with_reducible refine om ?_)
 obtain⟨p2,hp2e⟩:∃p2:zP,p2={ p with S:=(bt,yI tv)::(br,qV R)::p.S }:=⟨_,rfl⟩
 have hp2:p2.OK R r:=by
  rw[hp2e]
  refine⟨hp.todo,hp.seen,?_,?_⟩
  ·simp only[q8.er_cons,hp.box,yI,qV,HObj.er_var,AV.erk,htv];rfl
  ·exact hp.tds.mono fun z hz=>by simp[hz]
 have hcok:V3 R p2.q p2.S (.there .add) (.fn 172 [.ptr br .ptr [],.ptr bt .func []]):=by
  rw[hp2e]
  exact⟨br,bt,tv,rfl,by simp,by simp,htv⟩
 have hask:=zfG R pth (.there .add) _ hp2 hcok hb
 have her2:=(show qQ R r (p2.core R r) from⟨p2,hp2,rfl⟩).er
 refine qD (R:=fun y H'=>y=.tup []/\qQ R (yN pth (.there .add) r) H') (p2.core R r) [(b4,qS pth),(b3,kA ⟨[zU,pth],rs⟩),(b2,qV R)] ?_ rfl (by simp[qE]) (by simp) ?_ ?_
 ·rw[hp2e]
  refine List.perm_iff_count.2 fun a=>?_
  simp only[zP.core,hrest,kY,List.count_append,List.count_cons,List.count_nil,QQ,kO,qS,yI,qV,kA,zE,strs,zU,qJ,List.map_cons,List.map_nil]
  omega
 ·rw[her2]
  simpa[TV.er,AV.er]using hask
 rintro y H' ⟨rfl,hh⟩ _
 refine⟨H',HSub.of_sub (List.sublist_append_left _ _),?_⟩
 have hhe:=hh.er
 simp (disch:=omega) [zz,Tryz.f111,hhe]
 exact⟨H',HSub.refl _,hh⟩
theorem zoC (R:Nat) (pth rs:Txt) {r:qG} {p:zP} (hp:p.OK R r) (hb:RB r) (hbl:r.buf.length<=65536) :
  q7 Tryz.prog 111 [.av .ptr (.ptr R kO []),.av QQ (zE ⟨[wF,pth],rs⟩)] (p.core R r) fun y H'=>y=.tup []/\qQ R (yN pth .tr r) H':=by
 have her:=(show qQ R r (p.core R r) from⟨p,hp,rfl⟩).er
 refine q7.sub (R:=fun y H'=>y=.tup []/\∃H2,Ab.HSub H2 H'/\qQ R (yN pth .tr r) H2) ?_ fun y H' ⟨h1,H2,h2,h3⟩ _=>⟨H2,h2,h1,h3⟩
 obtain⟨rest,hrest⟩:∃rest,rest=kY p r:=⟨_,rfl⟩
 have hco:=zY p R r
 rw[<-hrest]at hco
 rw[hco]
 refine zov Tryz.func111 zao fun imm0 w0=>?_
 (simp (maxSteps:=2000000) (disch:=first|omega|assumption) [zz,-List.reduceReplicate,zE,strs,wF])
 intro b2 m1 m2 b3 o0 o1 o2 b4 q0 q1 q2 q3
 have sy:∀ {a b:Nat},¬a=b->¬b=a:=fun h e=>h e.symm
 have m1':=sy m1;have o0':=sy o0;have o1':=sy o1;have q0':=sy q0;have q1':=sy q1;have q2':=sy q2
 simp (disch:=omega) [zz,qJ,m1,m1',o0,o0',o1,o1',q0,q0',q1,q1',q2,q2']
 refine zcv (X2 r.buf hbl) ?_
 simp (disch:=omega) [zz,qJ,m1,m1',o0,o0',o1,o1',q0,q0',q1,q1',q2,q2']
 obtain⟨p2,hp2e⟩:∃p2:zP,p2={ p with S:=(b2,qV R)::p.S }:=⟨_,rfl⟩
 have hp2:p2.OK R r:=by
  rw[hp2e]
  refine⟨hp.todo,hp.seen,?_,?_⟩
  ·simp only[q8.er_cons,hp.box,qV,HObj.er_var,AV.erk]
  ·exact hp.tds.mono fun z hz=>by simp[hz]
 have hcok:V3 R p2.q p2.S .tr (.fn 146 [.ptr b2 .ptr []]):=by
  rw[hp2e]
  exact⟨b2,rfl,by simp⟩
 have hask:=zfG R pth .tr _ hp2 hcok hb
 have her2:=(show qQ R r (p2.core R r) from⟨p2,hp2,rfl⟩).er
 refine qD (R:=fun y H'=>y=.tup []/\qQ R (yN pth .tr r) H') (p2.core R r) [(b4,qS pth),(b3,kA ⟨[wF,pth],rs⟩)] ?_ rfl (by simp[qE]) (by simp) ?_ ?_
 ·rw[hp2e]
  refine List.perm_iff_count.2 fun a=>?_
  simp only[zP.core,hrest,kY,List.count_append,List.count_cons,List.count_nil,QQ,kO,qS,yI,qV,kA,zE,strs,wF,qJ,List.map_cons,List.map_nil]
  omega
 ·rw[her2]
  simpa[TV.er,AV.er]using hask
 rintro y H' ⟨rfl,hh⟩ _
 refine⟨H',HSub.of_sub (List.sublist_append_left _ _),?_⟩
 have hhe:=hh.er
 simp (disch:=omega) [zz,Tryz.f111,hhe]
 exact⟨H',HSub.refl _,hh⟩
theorem zmT (R:Nat) (rs:Txt) {r:qG} {p:zP} (hp:p.OK R r) (hb:RB r) (hbl:r.buf.length<=65536) (hrs:rs.length<=1000000) :
  q7 Tryz.prog 111 [.av .ptr (.ptr R kO []),.av QQ (zE ⟨[jZ],rs⟩)] (p.core R r) fun y H'=>y=.tup []/\qQ R (y6 (rs++[10]) r) H':=by
 have her:=(show qQ R r (p.core R r) from⟨p,hp,rfl⟩).er
 refine q7.sub (R:=fun y H'=>y=.tup []/\∃H2,Ab.HSub H2 H'/\qQ R (y6 (rs++[10]) r) H2) ?_ fun y H' ⟨h1,H2,h2,h3⟩ _=>⟨H2,h2,h1,h3⟩
 obtain⟨rest,hrest⟩:∃rest,rest=kY p r:=⟨_,rfl⟩
 have hco:=zY p R r
 rw[<-hrest]at hco
 rw[hco]
 refine zov Tryz.func111 zao fun imm0 w0=>?_
 (simp (maxSteps:=2000000) (disch:=first|omega|assumption) [zz,-List.reduceReplicate,zE,strs,jZ])
 intro b2 m1 m2 b3 o0 o1 o2 b4 q0 q1 q2 q3
 have sy:∀ {a b:Nat},¬a=b->¬b=a:=fun h e=>h e.symm
 have m1':=sy m1;have o0':=sy o0;have o1':=sy o1;have q0':=sy q0;have q1':=sy q1;have q2':=sy q2
 simp (disch:=omega) [zz,qJ,m1,m1',o0,o0',o1,o1',q0,q0',q1,q1',q2,q2']
 refine zcv (X2 r.buf hbl) ?_
 simp (disch:=omega) [zz,qJ,m1,m1',o0,o0',o1,o1',q0,q0',q1,q1',q2,q2']
 refine⟨by omega,?_⟩
 refine qD (R:=fun y H'=>y=.tup []/\qQ R (y6 (rs++[10]) r) H') (p.core R r) [(b4,qS []),(b3,kA ⟨[jZ],rs⟩),(b2,qV R)] ?_ rfl (by simp[qE]) (by simp) ?_ ?_
 ·refine List.perm_iff_count.2 fun a=>?_
  simp only[zP.core,hrest,kY,List.count_append,List.count_cons,List.count_nil,QQ,kO,qS,yI,qV,kA,zE,strs,jZ,qJ,List.map_cons,List.map_nil]
  omega
 ·rw[her]
  have:=zl5 R (rs++[10]) (r:=r) (H:=p.core R r) ⟨p,hp,rfl⟩ hb.buf (by simp;omega)
  simpa[TV.er,AV.er]using this
 rintro y H' ⟨rfl,hh⟩ _
 refine⟨H',HSub.of_sub (List.sublist_append_left _ _),?_⟩
 have hhe:=hh.er
 simp (disch:=omega) [zz,Tryz.f111,hhe]
 exact⟨H',HSub.refl _,hh⟩
theorem zmv (R:Nat) (rs:Txt) {r:qG} {p:zP} (hp:p.OK R r) (hb:RB r) (hbl:r.buf.length<=65536) :
  q7 Tryz.prog 111 [.av .ptr (.ptr R kO []),.av QQ (zE ⟨[QF],rs⟩)] (p.core R r) fun y H'=>y=.tup []/\qQ R (w6 15 r) H':=by
 have her:=(show qQ R r (p.core R r) from⟨p,hp,rfl⟩).er
 refine q7.sub (R:=fun y H'=>y=.tup []/\∃H2,Ab.HSub H2 H'/\qQ R (w6 15 r) H2) ?_ fun y H' ⟨h1,H2,h2,h3⟩ _=>⟨H2,h2,h1,h3⟩
 obtain⟨rest,hrest⟩:∃rest,rest=kY p r:=⟨_,rfl⟩
 have hco:=zY p R r
 rw[<-hrest]at hco
 rw[hco]
 refine zov Tryz.func111 zao fun imm0 w0=>?_
 (simp (maxSteps:=2000000) (disch:=first|omega|assumption) [zz,-List.reduceReplicate,zE,strs,QF])
 intro b2 m1 m2 b3 o0 o1 o2 b4 q0 q1 q2 q3
 have sy:∀ {a b:Nat},¬a=b->¬b=a:=fun h e=>h e.symm
 have m1':=sy m1;have o0':=sy o0;have o1':=sy o1;have q0':=sy q0;have q1':=sy q1;have q2':=sy q2
 simp (disch:=omega) [zz,qJ,m1,m1',o0,o0',o1,o1',q0,q0',q1,q1',q2,q2']
 refine zcv (X2 r.buf hbl) ?_
 simp (disch:=omega) [zz,qJ,m1,m1',o0,o0',o1,o1',q0,q0',q1,q1',q2,q2']
 refine qD (R:=fun y H'=>y=.tup []/\qQ R (w6 15 r) H') (p.core R r) [(b4,qS []),(b3,kA ⟨[QF],rs⟩),(b2,qV R)] ?_ rfl (by simp[qE]) (by simp) ?_ ?_
 ·refine List.perm_iff_count.2 fun a=>?_
  simp only[zP.core,hrest,kY,List.count_append,List.count_cons,List.count_nil,QQ,kO,qS,yI,qV,kA,zE,strs,QF,qJ,List.map_cons,List.map_nil]
  omega
 ·rw[her]
  exact q7.args (zeP R 15 (r:=r) (H:=p.core R r) ⟨p,hp,rfl⟩) (by simp[qR,coC,TV.er,AV.er])
 rintro y H' ⟨rfl,hh⟩ _
 refine⟨H',HSub.of_sub (List.sublist_append_left _ _),?_⟩
 have hhe:=hh.er
 simp (disch:=omega) [zz,Tryz.f111,hhe]
 exact⟨H',HSub.refl _,hh⟩
theorem zjv (R:Nat) (pth rs:Txt) {r:qG} {p:zP} (hp:p.OK R r) (hb:RB r) (hbl:r.buf.length<=65536) :
  q7 Tryz.prog 111 [.av .ptr (.ptr R kO []),.av QQ (zE ⟨[jN,pth],rs⟩)] (p.core R r) fun y H'=>y=.tup []/\qQ R ({ r with over:=⟨2,pth,r.buf,0⟩,buf:=[] }) H':=by
 have her:=(show qQ R r (p.core R r) from⟨p,hp,rfl⟩).er
 refine q7.sub (R:=fun y H'=>y=.tup []/\∃H2,Ab.HSub H2 H'/\qQ R ({ r with over:=⟨2,pth,r.buf,0⟩,buf:=[] }) H2) ?_ fun y H' ⟨h1,H2,h2,h3⟩ _=>⟨H2,h2,h1,h3⟩
 obtain⟨rest,hrest⟩:∃rest,rest=kY p r:=⟨_,rfl⟩
 have hco:=zY p R r
 rw[<-hrest]at hco
 rw[hco]
 refine zov Tryz.func111 zao fun imm0 w0=>?_
 (simp (maxSteps:=2000000) (disch:=first|omega|assumption) [zz,-List.reduceReplicate,zE,strs,jN])
 intro b2 m1 m2 b3 o0 o1 o2 b4 q0 q1 q2 q3
 have sy:∀ {a b:Nat},¬a=b->¬b=a:=fun h e=>h e.symm
 have m1':=sy m1;have o0':=sy o0;have o1':=sy o1;have q0':=sy q0;have q1':=sy q1;have q2':=sy q2
 simp (disch:=omega) [zz,qJ,m1,m1',o0,o0',o1,o1',q0,q0',q1,q1',q2,q2']
 refine zcv (X2 r.buf hbl) ?_
 simp (disch:=omega) [zz,qJ,m1,m1',o0,o0',o1,o1',q0,q0',q1,q1',q2,q2']
 obtain⟨_,e2⟩:=hp.todo.er hp.tds
 have e3:=zH r.env
 have hrer:rest.er=rest:=by
  rw[hco,q8.er_cons]at her
  exact(List.cons.inj her).2
 (repeat with_reducible refine om ?_)
 refine jO.ofK [0,1,2,3,4,5,6,7,8,9] [] [] (by kernel_rfl) ?_
 simp (disch:=omega) [zz,qJ,jA,m1,m1',o0,o0',o1,o1',q0,q0',q1,q1',q2,q2']
 (repeat with_reducible refine om ?_)
 simp (disch:=omega) [zz,qJ,jA,m1,m1',o0,o0',o1,o1',q0,q0',q1,q1',q2,q2',e2,e3,hrer,Tryz.f111]
 refine⟨p.core R { r with over:=⟨2,pth,r.buf,0⟩,buf:=[] },HSub.of_sub ?_,p,⟨hp.todo,hp.seen,hp.box,hp.tds⟩,rfl⟩
 rw[zY]
 have:kY p { r with over:=⟨2,pth,r.buf,0⟩,buf:=[] }=rest:=by rw[hrest];rfl
 rw[this]
 simp only[qJ,jA]
 exact(((List.Sublist.refl _).cons _).cons _).cons _
abbrev zqh:TyD:=.struct [9,9]
@[simp] theorem zpc (x:Txt × Txt):(x4 x).er=x4 x:=rfl
theorem zlZ (b:Nat) (arg:Txt) (x:Txt × Txt):q7 Tryz.prog 149 [.av zqh (x4 x),.av .ptr (.ptr b .str [])] [(b,qS arg)] fun r H'=>r=.av .bool (.b (decide (x.1=arg)))/\H'=[(b,qS arg)]:=by
 refine zov Tryz.func149 cf0 fun imm0 w0=>?_
 simp (disch:=omega) [zz,qS,x4,Tryz.f149]
theorem ziZ (b:Nat) (arg:Txt) (ts:List (Txt × Txt)) (hn:ts.length<=1000000000) :
  q7 Tryz.prog 148 [.av (.slice 134) (zO ts),.av .func (.fn 149 [.ptr b .str []])] [(b,qS arg)]
   fun r H'=>r=.av (.int .i64) (.i .i64 (QJ (fun x=>decide (x.1=arg)) ts))/\H'=[(b,qS arg)]:=by
 have hbe:(qS arg).er=qS arg:=rfl
 refine zov Tryz.func148 cf0 fun imm0 w0=>?_
 simp (disch:=omega) [zz,zO]
 refine AT.loop' (α:=Nat) (fun k=>St.of [(0,.av (.slice 134) (.sl .no (ts.map x4))),(1,.av .func (.fn 149 [.ptr b .str []])),(7,.av (.int .i64) (.i .i64 ts.length)),(8,.av (.int .i64) (.i .i64 k))] [] (fun _=>0) [(b,qS arg)])
  (fun k=>k<=ts.length/\∀x∈ts.take k,(fun x:Txt × Txt=>decide (x.1=arg)) x=false) (fun k=>ts.length-k) 0 ?_ ?_ ?_
 ·apply Le.of<;>simp[zR,qI]
 ·simp
 rintro k ⟨hk',hpk⟩ KL hN hE
 refine zrd cf0 ?_
 by_cases hlt:k<ts.length
 ·have hlt':(k:Int)<ts.length:=by omega
  have hg:(ts.map x4)[k]?=some (x4 ts[k]):=by simp[List.getElem?_eq_getElem hlt]
  simp (disch:=omega) [zz,hlt',hg]
  refine qD (R:=fun r' H'=>r'=.av .bool (.b (decide (ts[k].1=arg)))/\H'=[(b,qS arg)]) [(b,qS arg)] [] (by simp) rfl (by simp[qE]) (by simp) ?_ ?_
  ·rw[q8.er_cons,hbe]
   simpa[TV.er,AV.er]using zlZ b arg ts[k]
  rintro r' H' ⟨rfl,rfl⟩ _
  refine⟨[(b,qS arg)],HSub.refl _,?_⟩
  by_cases hpp:ts[k].1=arg
  ·simp (disch:=omega) [zz,hpp]
   refine hE _ _ (by simp) ?_
   simp (disch:=omega) [zz,Tryz.f148,JR (p:=fun x:Txt × Txt=>decide (x.1=arg)) hlt hpk (by simpa using hpp),hbe]
  ·simp (disch:=omega) [zz,hpp]
   refine hN _ (k+1) ?_ ⟨by omega,by rw[yC hlt];exact⟨hpk,by simpa using hpp⟩⟩ (by omega)
   apply Le.of<;>simp[zR,qI]
 ·have hlt':¬(k:Int)<ts.length:=by omega
  simp (disch:=omega) [zz,hlt']
  refine hE _ _ (by simp) ?_
  rw[List.take_of_length_le (by omega)]at hpk
  simp (disch:=omega) [zz,Tryz.f148,ZP (p:=fun x:Txt × Txt=>decide (x.1=arg)) hpk,hbe]
theorem znU (R:Nat) (arg rs:Txt) {r:qG} {p:zP} (hp:p.OK R r) (hb:RB r) (hbl:r.buf.length<=65536) (hen:r.env.length<=1000000000) (hev:∀x∈r.env,x.2.length<=1000000000000000) :
  q7 Tryz.prog 111 [.av .ptr (.ptr R kO []),.av QQ (zE ⟨[Q3,arg],rs⟩)] (p.core R r) fun y H'=>y=.tup []/\qQ R (match r.env.find? (fun x=>decide (x.1=arg))with|some x=>y6 x.2 r|none=>w6 10 r) H':=by
 have her:=(show qQ R r (p.core R r) from⟨p,hp,rfl⟩).er
 refine q7.sub (R:=fun y H'=>y=.tup []/\∃H2,Ab.HSub H2 H'/\qQ R (match r.env.find? (fun x=>decide (x.1=arg))with|some x=>y6 x.2 r|none=>w6 10 r) H2) ?_ fun y H' ⟨h1,H2,h2,h3⟩ _=>⟨H2,h2,h1,h3⟩
 obtain⟨rest,hrest⟩:∃rest,rest=kY p r:=⟨_,rfl⟩
 have hco:=zY p R r
 rw[<-hrest]at hco
 rw[hco]
 refine zov Tryz.func111 zao fun imm0 w0=>?_
 (simp (maxSteps:=2000000) (disch:=first|omega|assumption) [zz,-List.reduceReplicate,zE,strs,Q3])
 intro b2 m1 m2 b3 o0 o1 o2 b4 q0 q1 q2 q3
 have sy:∀ {a b:Nat},¬a=b->¬b=a:=fun h e=>h e.symm
 have m1':=sy m1;have o0':=sy o0;have o1':=sy o1;have q0':=sy q0;have q1':=sy q1;have q2':=sy q2
 simp (disch:=omega) [zz,qJ,m1,m1',o0,o0',o1,o1',q0,q0',q1,q1',q2,q2']
 refine zcv (X2 r.buf hbl) ?_
 simp (disch:=omega) [zz,qJ,m1,m1',o0,o0',o1,o1',q0,q0',q1,q1',q2,q2']
 obtain⟨q,hq⟩:∃q,q=QJ (fun x:Txt × Txt=>decide (x.1=arg)) r.env:=⟨_,rfl⟩
 have hix:=ziZ b4 arg r.env hen
 rw[<-hq]at hix
 refine qD (R:=fun r' H'=>r'=.av (.int .i64) (.i .i64 q)/\H'=[(b4,qS arg)]) [(b4,qS arg)] ((b3,kA ⟨[Q3,arg],rs⟩)::(b2,qV R)::(R,qJ p.ta (zO r.env) r.buf p.K r.asks r.waits r.over)::rest) (by simp[qS,qV,kA,zE,strs,Q3,qJ]) rfl (by simp[qE]) (by simp) ?_ ?_
 ·have e9:=zH r.env
  simpa[TV.er,AV.er,q8.er_cons,qS,HObj.er_var,AV.erk,zO,AV.ers_eq,Function.comp_def]using hix
 rintro r' H' ⟨rfl,rfl⟩ _
 refine⟨_,HSub.refl _,?_⟩
 rcases CE (fun x:Txt × Txt=>decide (x.1=arg)) r.env with⟨he,hf⟩|⟨i,hi,he,hf⟩
 ·rw[<-hq]at he
  subst he
  simp (disch:=omega) [zz,hf,qS,qV,kA,zE,strs,qJ,m1,m1',o0,o0',o1,o1',q0,q0',q1,q1',q2,q2']
  refine qD (R:=fun y H'=>y=.tup []/\qQ R (w6 10 r) H') (p.core R r) [(b4,qS arg),(b3,kA ⟨[Q3,arg],rs⟩),(b2,qV R)] ?_ rfl (by simp[qE]) (by simp) ?_ ?_
  ·refine List.perm_iff_count.2 fun a=>?_
   simp only[zP.core,hrest,kY,List.count_append,List.count_cons,List.count_nil,QQ,kO,qS,yI,qV,kA,zE,strs,Q3,qJ,List.map_cons,List.map_nil]
   omega
  ·rw[her]
   exact q7.args (zeP R 10 (r:=r) (H:=p.core R r) ⟨p,hp,rfl⟩) (by simp[qR,coC,TV.er,AV.er])
  rintro y H' ⟨rfl,hh⟩ _
  refine⟨H',HSub.of_sub (List.sublist_append_left _ _),?_⟩
  have hhe:=hh.er
  simp (disch:=omega) [zz,Tryz.f111,hhe]
  exact⟨H',HSub.refl _,hh⟩
 ·rw[<-hq]at he
  subst he
  have h0:¬(i:Int)<0:=by omega
  have hil:(i:Int)<r.env.length:=by omega
  have hg:(r.env.map x4)[i]?=some (x4 r.env[i]):=by simp[List.getElem?_eq_getElem hi]
  have hvl:=hev _ (List.getElem_mem hi)
  simp (disch:=omega) [zz,h0,qS,qV,kA,zE,zO,strs,qJ,m1,m1',o0,o0',o1,o1',q0,q0',q1,q1',q2,q2']
  refine jO.ofK [0,1,2,3,4,5,6,7,8,9] [] [] (by kernel_rfl) ?_
  simp (disch:=omega) [zz,h0,hf,hil,hg,hi,x4,m1,m1',o0,o0',o1,o1',q0,q0',q1,q1',q2,q2']
  (repeat with_reducible refine om ?_)
  refine qD (R:=fun y H'=>y=.tup []/\qQ R (y6 r.env[i].2 r) H') (p.core R r) [(b4,qS arg),(b3,kA ⟨[Q3,arg],rs⟩),(b2,qV R)] ?_ rfl (by simp[qE]) (by simp) ?_ ?_
  ·refine List.perm_iff_count.2 fun a=>?_
   simp only[zP.core,hrest,kY,List.count_append,List.count_cons,List.count_nil,QQ,kO,qS,yI,qV,zO,kA,zE,strs,Q3,qJ,List.map_cons,List.map_nil]
   omega
  ·rw[her]
   have:=zl5 R r.env[i].2 (r:=r) (H:=p.core R r) ⟨p,hp,rfl⟩ hb.buf (by omega)
   simpa[TV.er,AV.er]using this
  rintro y H' ⟨rfl,hh⟩ _
  refine⟨H',HSub.of_sub (List.sublist_append_left _ _),?_⟩
  have hhe:=hh.er
  simp (disch:=omega) [zz,Tryz.f111,hhe]
  exact⟨H',HSub.refl _,hh⟩
end
end Go.Proofs.YtdkieabmeiojjaaGreatDoor
