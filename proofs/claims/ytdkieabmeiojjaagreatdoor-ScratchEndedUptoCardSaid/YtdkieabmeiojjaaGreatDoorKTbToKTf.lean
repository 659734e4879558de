/- A command is done: the buffer is turned. No condition. -/
import Derived.Test.YtdkieabmeiojjaaGreatDoorKT7ToKTa
set_option linter.unusedSimpArgs false
set_option linter.unusedVariables false
set_option linter.unusedSectionVars false
set_option maxHeartbeats 64000000
set_option maxRecDepth 100000
namespace Go.Proofs.YtdkieabmeiojjaaGreatDoor
open Go Go.Ab
open Classical
section
variable [Sel] [SelPow] [SelMax]
theorem zkI (R:Nat) (nm arg rs:Txt) {r:qG} {p:zP} (hp:p.OK R r) (hb:RB r) (hbl:r.buf.length<=65536) (hnm:nm=wV\/nm=yG\/nm=kV\/nm=wC\/nm=y3) :
  q7 Tryz.prog 111 [.av .ptr (.ptr R kO []),.av QQ (zE ⟨[nm,arg],rs⟩)] (p.core R r) fun y H'=>y=.tup []/\qQ R (kX nm arg r) H':=by
 have her:=(show qQ R r (p.core R r) from⟨p,hp,rfl⟩).er
 refine q7.sub (R:=fun y H'=>y=.tup []/\∃H2,Ab.HSub H2 H'/\qQ R (kX nm arg r) H2) ?_ fun y H' ⟨h1,H2,h2,h3⟩ _=>⟨H2,h2,h1,h3⟩
 obtain⟨rest,hrest⟩:∃rest,rest=kY p r:=⟨_,rfl⟩
 have hco:=zY p R r
 rw[<-hrest]at hco
 rw[hco]
 have hne:(¬nm=[114,101,97,100])/\(¬nm=[116,114,121])/\(¬nm=[115,99,97,110])/\(¬nm=[116,101,120,116])/\(¬nm=[101,110,118])/\(¬nm=[119,114,105,116,101])/\(¬nm=[110,101,101,100])/\(¬nm=[102,97,105,108]):=by
  rcases hnm with rfl|rfl|rfl|rfl|rfl<;>decide
 obtain⟨h1,h2,h3,h4,h5,h6,h7,h8⟩:=hne
 refine zov Tryz.func111 zao fun imm0 w0=>?_
 (simp (maxSteps:=2000000) (disch:=first|omega|assumption) [zz,-List.reduceReplicate,zE,strs,h1,h2,h3,h4,h5,h6,h7,h8])
 intro b2 m1 m2 b3 o0 o1 o2 b4 q0 q1 q2 q3
 have sy:∀ {a b:Nat},¬a=b->¬b=a:=fun h e=>h e.symm
 have m1':=sy m1;have o0':=sy o0;have o1':=sy o1;have q0':=sy q0;have q1':=sy q1;have q2':=sy q2
 simp (disch:=omega) [zz,qJ,m1,m1',o0,o0',o1,o1',q0,q0',q1,q1',q2,q2']
 obtain⟨bx,hbx⟩:∃bx:q8,bx=(b4,qS arg)::(b3,kA ⟨[nm,arg],rs⟩)::(b2,qV R)::(R,qJ p.ta (zO r.env) r.buf p.K r.asks r.waits r.over)::rest:=⟨_,rfl⟩
 refine qD (R:=cQ (qU r.buf)) [] bx (by rw[hbx];simp[qS,qV,kA,zE,strs,qJ,kF]) rfl (by simp[qE]) (by simp) ?_ ?_
 ·simpa[TV.er,AV.er]using gW r.buf (by omega)
 intro rr HR hR hndR
 obtain⟨v,rfl,hrow⟩:=J1.of hR
 have hb4:∀b∈HR.keys,b≠b4:=by
  intro b hb e
  rw[hbx]at hndR
  simp only[q8.keys,List.map_append,List.map_cons]at hndR
  have:=(List.nodup_append.1 hndR).2.2 b hb b4 (by simp)
  exact this e
 refine⟨bx++HR,HSub.of_perm List.perm_append_comm,?_⟩
 have hrer:=hrow.er
 rw[hbx]
 simp (disch:=omega) [zz,qJ,qV,qS,kA,zE,strs,h1,h2,h3,h4,h5,h6,h7,h8,m1,m1',o0,o0',o1,o1',q0,q0',q1,q1',q2,q2']
 refine jO.ofK [0,1,2,3,4,5,6,7] [] [] (by kernel_rfl) ?_
 simp (disch:=omega) [zz,m1,m1',o0,o0',o1,o1',q0,q0',q1,q1',q2,q2']
 (repeat with_reducible refine om ?_)
 have htu:=znw R nm arg hp v HR hrow hbl hnm
 refine qD (R:=fun y H'=>y=.tup []/\qQ R (kX nm arg r) H') (p.core R r++HR) [(b4,qS arg),(b3,kA ⟨[nm,arg],rs⟩),(b2,qV R)] ?_ rfl (by simp[qE]) (by simp) ?_ ?_
 ·refine List.perm_iff_count.2 fun a=>?_
  simp only[zP.core,hrest,kY,List.count_append,List.count_cons,List.count_nil,QQ,kO,qS,yI,qV,kA,zE,strs,wV,qJ,List.map_cons,List.map_nil]
  omega
 ·rw[q8.er_app,her,hrer.1]
  simpa[TV.er,AV.er,hrer.2]using htu
 rintro y H' ⟨rfl,hh⟩ _
 refine⟨H',HSub.of_sub (List.sublist_append_left _ _),?_⟩
 have hhe:=hh.er
 simp (disch:=omega) [zz,Tryz.f111,hhe]
 exact⟨H',HSub.refl _,hh⟩
theorem VQ (R:Nat) (nm rs:Txt) {r:qG} {p:zP} (hp:p.OK R r) (hb:RB r) (hbl:r.buf.length<=65536) (hnm:nm=wV\/nm=yG\/nm=kV\/nm=wC\/nm=y3) :
  q7 Tryz.prog 111 [.av .ptr (.ptr R kO []),.av QQ (zE ⟨[nm],rs⟩)] (p.core R r) fun y H'=>y=.tup []/\qQ R (kX nm [] r) H':=by
 have her:=(show qQ R r (p.core R r) from⟨p,hp,rfl⟩).er
 refine q7.sub (R:=fun y H'=>y=.tup []/\∃H2,Ab.HSub H2 H'/\qQ R (kX nm [] r) H2) ?_ fun y H' ⟨h1,H2,h2,h3⟩ _=>⟨H2,h2,h1,h3⟩
 obtain⟨rest,hrest⟩:∃rest,rest=kY p r:=⟨_,rfl⟩
 have hco:=zY p R r
 rw[<-hrest]at hco
 rw[hco]
 have hne:(¬nm=[114,101,97,100])/\(¬nm=[116,114,121])/\(¬nm=[115,99,97,110])/\(¬nm=[116,101,120,116])/\(¬nm=[101,110,118])/\(¬nm=[119,114,105,116,101])/\(¬nm=[110,101,101,100])/\(¬nm=[102,97,105,108]):=by
  rcases hnm with rfl|rfl|rfl|rfl|rfl<;>decide
 obtain⟨h1,h2,h3,h4,h5,h6,h7,h8⟩:=hne
 refine zov Tryz.func111 zao fun imm0 w0=>?_
 (simp (maxSteps:=2000000) (disch:=first|omega|assumption) [zz,-List.reduceReplicate,zE,strs,h1,h2,h3,h4,h5,h6,h7,h8])
 intro b2 m1 m2 b3 o0 o1 o2 b4 q0 q1 q2 q3
 have sy:∀ {a b:Nat},¬a=b->¬b=a:=fun h e=>h e.symm
 have m1':=sy m1;have o0':=sy o0;have o1':=sy o1;have q0':=sy q0;have q1':=sy q1;have q2':=sy q2
 simp (disch:=omega) [zz,qJ,m1,m1',o0,o0',o1,o1',q0,q0',q1,q1',q2,q2']
 obtain⟨bx,hbx⟩:∃bx:q8,bx=(b4,qS [])::(b3,kA ⟨[nm],rs⟩)::(b2,qV R)::(R,qJ p.ta (zO r.env) r.buf p.K r.asks r.waits r.over)::rest:=⟨_,rfl⟩
 refine qD (R:=cQ (qU r.buf)) [] bx (by rw[hbx];simp[qS,qV,kA,zE,strs,qJ,kF]) rfl (by simp[qE]) (by simp) ?_ ?_
 ·simpa[TV.er,AV.er]using gW r.buf (by omega)
 intro rr HR hR hndR
 obtain⟨v,rfl,hrow⟩:=J1.of hR
 have hb4:∀b∈HR.keys,b≠b4:=by
  intro b hb e
  rw[hbx]at hndR
  simp only[q8.keys,List.map_append,List.map_cons]at hndR
  have:=(List.nodup_append.1 hndR).2.2 b hb b4 (by simp)
  exact this e
 refine⟨bx++HR,HSub.of_perm List.perm_append_comm,?_⟩
 have hrer:=hrow.er
 rw[hbx]
 simp (disch:=omega) [zz,qJ,qV,qS,kA,zE,strs,h1,h2,h3,h4,h5,h6,h7,h8,m1,m1',o0,o0',o1,o1',q0,q0',q1,q1',q2,q2']
 refine jO.ofK [0,1,2,3,4,5,6,7] [] [] (by kernel_rfl) ?_
 simp (disch:=omega) [zz,m1,m1',o0,o0',o1,o1',q0,q0',q1,q1',q2,q2']
 (repeat with_reducible refine om ?_)
 have htu:=znw R nm [] hp v HR hrow hbl hnm
 refine qD (R:=fun y H'=>y=.tup []/\qQ R (kX nm [] r) H') (p.core R r++HR) [(b4,qS []),(b3,kA ⟨[nm],rs⟩),(b2,qV R)] ?_ rfl (by simp[qE]) (by simp) ?_ ?_
 ·refine List.perm_iff_count.2 fun a=>?_
  simp only[zP.core,hrest,kY,List.count_append,List.count_cons,List.count_nil,QQ,kO,qS,yI,qV,kA,zE,strs,wV,qJ,List.map_cons,List.map_nil]
  omega
 ·rw[q8.er_app,her,hrer.1]
  simpa[TV.er,AV.er,hrer.2]using htu
 rintro y H' ⟨rfl,hh⟩ _
 refine⟨H',HSub.of_sub (List.sublist_append_left _ _),?_⟩
 have hhe:=hh.er
 simp (disch:=omega) [zz,Tryz.f111,hhe]
 exact⟨H',HSub.refl _,hh⟩
def zeB (arg:Txt) (r:qG):qG:=if (qU r.buf).any (fun s=>Lib.contains s arg)=true then r else w6 15 r
theorem zo2 (b:Nat) (arg x:Txt) (hx:x.length<=1000000000):q7 Tryz.prog 151 [.av .str (.s x),.av .ptr (.ptr b .str [])] [(b,qS arg)] fun r H'=>r=.av .bool (.b (Lib.contains x arg))/\H'=[(b,qS arg)]:=by
 refine zov Tryz.func151 cf0 fun imm0 w0=>?_
 simp (disch:=omega) [zz,qS]
 refine zcv (pM x arg (by omega)) ?_
 simp (disch:=omega) [zz,Tryz.f151]
theorem zmE (R:Nat) (arg rs:Txt) {r:qG} {p:zP} (hp:p.OK R r) (hb:RB r) (hbl:r.buf.length<=65536) (hal:arg.length<=1000000) :
  q7 Tryz.prog 111 [.av .ptr (.ptr R kO []),.av QQ (zE ⟨[kF,arg],rs⟩)] (p.core R r) fun y H'=>y=.tup []/\qQ R (zeB arg r) H':=by
 have her:=(show qQ R r (p.core R r) from⟨p,hp,rfl⟩).er
 refine q7.sub (R:=fun y H'=>y=.tup []/\∃H2,Ab.HSub H2 H'/\qQ R (zeB arg r) H2) ?_ fun y H' ⟨h1,H2,h2,h3⟩ _=>⟨H2,h2,h1,h3⟩
 obtain⟨rest,hrest⟩:∃rest,rest=kY p r:=⟨_,rfl⟩
 have hco:=zY p R r
 rw[<-hrest]at hco
 rw[hco]
 refine zov Tryz.func111 zao fun imm0 w0=>?_
 (simp (maxSteps:=2000000) (disch:=first|omega|assumption) [zz,-List.reduceReplicate,zE,strs,kF])
 intro b2 m1 m2 b3 o0 o1 o2 b4 q0 q1 q2 q3
 have sy:∀ {a b:Nat},¬a=b->¬b=a:=fun h e=>h e.symm
 have m1':=sy m1;have o0':=sy o0;have o1':=sy o1;have q0':=sy q0;have q1':=sy q1;have q2':=sy q2
 simp (disch:=omega) [zz,qJ,m1,m1',o0,o0',o1,o1',q0,q0',q1,q1',q2,q2']
 obtain⟨bx,hbx⟩:∃bx:q8,bx=(b4,qS arg)::(b3,kA ⟨[kF,arg],rs⟩)::(b2,qV R)::(R,qJ p.ta (zO r.env) r.buf p.K r.asks r.waits r.over)::rest:=⟨_,rfl⟩
 refine qD (R:=cQ (qU r.buf)) [] bx (by rw[hbx];simp[qS,qV,kA,zE,strs,qJ,kF]) rfl (by simp[qE]) (by simp) ?_ ?_
 ·simpa[TV.er,AV.er]using gW r.buf (by omega)
 intro rr HR hR hndR
 obtain⟨v,rfl,hrow⟩:=J1.of hR
 have hb4:∀b∈HR.keys,b≠b4:=by
  intro b hb e
  rw[hbx]at hndR
  simp only[q8.keys,List.map_append,List.map_cons]at hndR
  have:=(List.nodup_append.1 hndR).2.2 b hb b4 (by simp)
  exact this e
 refine⟨bx++HR,HSub.of_perm List.perm_append_comm,?_⟩
 have hrer:=hrow.er
 rw[hbx]
 simp (disch:=omega) [zz,qJ,qV,qS,kA,zE,strs,kF,m1,m1',o0,o0',o1,o1',q0,q0',q1,q1',q2,q2']
 have hpr:zbx (.fn 151 [.ptr b4 .str []]) b4 (qS arg) (fun s=>Lib.contains s arg) (qU r.buf):=⟨rfl,rfl,fun x hxm=>⟨_,rfl,by simp,by have hxl:=W8 hxm;simpa[TV.er,AV.er]using zo2 b4 arg x (by omega)⟩⟩
 have hany:=zjf _ _ b4 (qS arg) (qU r.buf) hpr v HR hrow hb4 (by have:=ZU r.buf;omega)
 obtain⟨q,hq⟩:∃q,q=(qU r.buf).any (fun s=>Lib.contains s arg):=⟨_,rfl⟩
 rw[<-hq]at hany
 have hnr:zeB arg r=if q=true then r else w6 15 r:=by rw[hq];rfl
 rw[hnr]
 refine qD (R:=fun r' H'=>r'=.av .bool (.b q)/\H'=HR++[(b4,qS arg)]) (HR++[(b4,qS arg)]) ((b3,kA ⟨[kF,arg],rs⟩)::(b2,qV R)::(R,qJ p.ta (zO r.env) r.buf p.K r.asks r.waits r.over)::rest) ?_ rfl (by simp[qE]) (by simp) ?_ ?_
 ·refine List.perm_iff_count.2 fun a=>?_
  simp only[zP.core,hrest,kY,List.count_append,List.count_cons,List.count_nil,QQ,kO,qS,yI,qV,kA,zE,strs,kF,qJ,List.map_cons,List.map_nil]
  omega
 ·rw[q8.er_app,hrer.1]
  simpa[TV.er,AV.er,q8.er_cons,qS,HObj.er_var,AV.erk,hrer.2]using hany
 rintro r' H' ⟨rfl,rfl⟩ _
 refine⟨(b4,qS arg)::(b3,kA ⟨[kF,arg],rs⟩)::(b2,qV R)::p.core R r,⟨HR++((b4,qS arg)::(b3,kA ⟨[kF,arg],rs⟩)::(b2,qV R)::p.core R r),?_,List.sublist_append_right _ _⟩,?_⟩
 ·refine List.perm_iff_count.2 fun a=>?_
  simp only[hco,List.count_append,List.count_cons,List.count_nil]
  omega
 rw[hco]
 cases q with
 | true =>
  have her3:=her
  rw[hco,q8.er_cons]at her3
  have e5:(qJ p.ta (zO r.env) r.buf p.K r.asks r.waits r.over).er=qJ p.ta (zO r.env) r.buf p.K r.asks r.waits r.over:=congrArg Prod.snd (List.cons.inj her3).1
  have e6:=(List.cons.inj her3).2
  simp (disch:=omega) [zz,qS,qV,kA,zE,strs,e5,e6,Tryz.f111]
  refine⟨p.core R r,HSub.of_sub ?_,p,hp,rfl⟩
  rw[hco]
  exact(((List.Sublist.refl _).cons _).cons _).cons _
 | false =>
  simp (disch:=omega) [zz,qS,qV,kA,zE,strs,m1,m1',o0,o0',o1,o1',q0,q0',q1,q1',q2,q2']
  refine qD (R:=fun y H'=>y=.tup []/\qQ R (w6 15 r) H') (p.core R r) [(b4,qS arg),(b3,kA ⟨[kF,arg],rs⟩),(b2,qV R)] ?_ rfl (by simp[qE]) (by simp) ?_ ?_
  ·refine List.perm_iff_count.2 fun a=>?_
   simp only[zP.core,hrest,kY,List.count_append,List.count_cons,List.count_nil,QQ,kO,qS,yI,qV,kA,zE,strs,kF,qJ,List.map_cons,List.map_nil]
   omega
  ·rw[her]
   exact q7.args (zeP R 15 (r:=r) (H:=p.core R r) ⟨p,hp,rfl⟩) (by simp[qR,coC,TV.er,AV.er])
  rintro y H' ⟨rfl,hh⟩ _
  refine⟨H',HSub.of_sub (List.sublist_append_left _ _),?_⟩
  have hhe:=hh.er
  simp (disch:=omega) [zz,Tryz.f111,hhe]
  exact⟨H',HSub.refl _,hh⟩
theorem PV.q {R:Nat} {q q':Option Nat} {S:q8} {t:TdV} {v:AV} (hc:isC t=true) (h:PV R q S t v):PV R q' S t v:=by
 cases t with
 | cmd c=>exact h
 | ans k p=>simp[isC]at hc
 | line s w=>simp[isC]at hc
theorem yJ.q {R:Nat} {q q':Option Nat} {S:q8} {ts:List TdV} {vs:List AV} (h:yJ R q S ts vs):(∀t∈ts,isC t=true)->yJ R q' S ts vs:=by
 induction h with
 | nil=>exact fun _=>.nil
 | cons a _ ih=>exact fun hc=>.cons (a.q (hc _ (by simp))) (ih fun t ht=>hc t (by simp[ht]))
theorem zmH (R:Nat) (pth w rs:Txt) {r:qG} {p:zP} (hp:p.OK R r) (hb:RB r) (hbl:r.buf.length<=65536) (hcm:∀t∈r.todo,isC t=true) :
  q7 Tryz.prog 111 [.av .ptr (.ptr R kO []),.av QQ (zE ⟨[jM,pth,w],rs⟩)] (p.core R r) fun y H'=>y=.tup []/\qQ R (ZD pth w { r with seen:=[] }) H':=by
 have her:=(show qQ R r (p.core R r) from⟨p,hp,rfl⟩).er
 refine q7.sub (R:=fun y H'=>y=.tup []/\∃H2,Ab.HSub H2 H'/\qQ R (ZD pth w { r with seen:=[] }) H2) ?_ fun y H' ⟨h1,H2,h2,h3⟩ _=>⟨H2,h2,h1,h3⟩
 obtain⟨rest,hrest⟩:∃rest,rest=kY p r:=⟨_,rfl⟩
 have hco:=zY p R r
 rw[<-hrest]at hco
 rw[hco]
 refine zov Tryz.func111 zao fun imm0 w0=>?_
 (simp (maxSteps:=2000000) (disch:=first|omega|assumption) [zz,-List.reduceReplicate,zE,strs,jM])
 intro b2 m1 m2 b3 o0 o1 o2 b4 q0 q1 q2 q3
 have sy:∀ {a b:Nat},¬a=b->¬b=a:=fun h e=>h e.symm
 have m1':=sy m1;have o0':=sy o0;have o1':=sy o1;have q0':=sy q0;have q1':=sy q1;have q2':=sy q2
 simp (disch:=omega) [zz,qJ,m1,m1',o0,o0',o1,o1',q0,q0',q1,q1',q2,q2']
 refine zcv (X2 r.buf hbl) ?_
 simp (disch:=omega) [zz,qJ,m1,m1',o0,o0',o1,o1',q0,q0',q1,q1',q2,q2']
 refine jO.ofK [0,1,2,3,4,5,6,7] [0,1,2,3,4,5] [b2,b3,b4] (by kernel_rfl) ?_
 simp (disch:=omega) [zz,qV,m1,m1',o0,o0',o1,o1',q0,q0',q1,q1',q2,q2']
 (repeat with_reducible refine om ?_)
 intro Q f1 f2 f3 f4 f5
 have f1':=sy f1;have f2':=sy f2;have f3':=sy f3;have f4':=sy f4
 simp (disch:=omega) [zz,XT,qV,f1,f1',f2,f2',f3,f3',f4,f4',m1,m1',o0,o0',o1,o1',q0,q0',q1,q1',q2,q2']
 (repeat with_reducible refine om ?_)
 obtain⟨p2,hp2e⟩:∃p2:zP,p2={ p with q:=some Q,QH:=[(Q,.map 9 4 (X8 []))] }:=⟨_,rfl⟩
 have hp2:p2.OK R { r with seen:=[] }:=by
  rw[hp2e]
  exact⟨hp.todo,.inr ⟨Q,rfl,rfl⟩,hp.box,hp.tds.q hcm⟩
 have hb2:RB { r with seen:=[] }:=⟨hb.buf,hb.todo,hb.dat,hb.nk⟩
 have hscan:=zhq R Q pth w hp2 (by rw[hp2e]) hb2 (by simp)
 have her2:=(show qQ R { r with seen:=[] } (p2.core R { r with seen:=[] }) from⟨p2,hp2,rfl⟩).er
 refine qD (R:=fun y H'=>y=.tup []/\qQ R (ZD pth w { r with seen:=[] }) H') (p2.core R { r with seen:=[] }) ([(b4,qS pth),(b3,kA ⟨[jM,pth,w],rs⟩),(b2,qV R)]++p.QH) ?_ rfl (by simp[qE]) (by simp) ?_ ?_
 ·refine List.perm_iff_count.2 fun a=>?_
  simp only[hp2e,zP.core,X8,hrest,kY,List.count_append,List.count_cons,List.count_nil,QQ,kO,qS,yI,qV,kA,zE,strs,jM,qJ,List.map_cons,List.map_nil]
  omega
 ·rw[her2]
  simpa[TV.er,AV.er]using hscan
 rintro y H' ⟨rfl,hh⟩ _
 refine⟨H',HSub.of_sub (List.sublist_append_left _ _),?_⟩
 have hhe:=hh.er
 simp (disch:=omega) [zz,Tryz.f111,hhe]
 exact⟨H',HSub.refl _,hh⟩
inductive OKC:CmdV->Prop
 | read (p rs):OKC ⟨[zU,p],rs⟩
 | try_ (p rs):OKC ⟨[wF,p],rs⟩
 | write (p rs):OKC ⟨[jN,p],rs⟩
 | scan (p w rs):OKC ⟨[jM,p,w],rs⟩
 | env (a rs):OKC ⟨[Q3,a],rs⟩
 | need (a rs):OKC ⟨[kF,a],rs⟩
 | keep (a rs):OKC ⟨[y3,a],rs⟩
 | sort (rs):OKC ⟨[wV],rs⟩
 | uniq (rs):OKC ⟨[yG],rs⟩
 | upper (rs):OKC ⟨[kV],rs⟩
 | count (rs):OKC ⟨[wC],rs⟩
 | fail (rs):OKC ⟨[QF],rs⟩
 | text (rs):OKC ⟨[jZ],rs⟩
theorem zcp (w:Txt):(jI w).1=0\/((jI w).1=2/\(jI w).2=true/\(w=zU\/w=wF\/w=jN))\/((jI w).1=3/\(jI w).2=true/\w=jM)\/((jI w).1=2/\(jI w).2=false/\(w=Q3\/w=y3\/w=kF))\/((jI w).1=1/\(jI w).2=false/\(w=wV\/w=yG\/w=kV\/w=wC\/w=QF)):=by
 unfold jI
 by_cases a:w=zU\/w=wF\/w=jN
 ·rw[if_pos a];exact .inr (.inl ⟨rfl,rfl,a⟩)
 rw[if_neg a]
 by_cases b:w=jM
 ·rw[if_pos b];exact .inr (.inr (.inl ⟨rfl,rfl,b⟩))
 rw[if_neg b]
 by_cases c:w=Q3\/w=y3\/w=kF
 ·rw[if_pos c];exact .inr (.inr (.inr (.inl ⟨rfl,rfl,c⟩)))
 rw[if_neg c]
 by_cases d:w=wV\/w=yG\/w=kV\/w=wC\/w=QF
 ·rw[if_pos d];exact .inr (.inr (.inr (.inr ⟨rfl,rfl,d⟩)))
 ·rw[if_neg d];exact .inl rfl
theorem zhX {s:Txt} {c:CmdV} (h:ZA s=some (some c)):OKC c/\c.rest.length<=s.length/\(∀w∈c.words,w.length<=s.length)/\(∀p w rs,c=⟨[jM,p,w],rs⟩->w5 p=true)/\∀p rs,c=⟨[zU,p],rs⟩\/c=⟨[wF,p],rs⟩\/c=⟨[jN,p],rs⟩->w5 p=true:=by
 unfold ZA at h
 have heach:∀w∈zG s,w.length<=s.length:=fun w hw=>by
  have:=(ZV hw).2;simpa using this
 cases hw:zG s with
 | nil=>rw[hw]at h;simp at h
 | cons w ws =>
  rw[hw]at h heach
  simp only at h
  split at h
  ·simp at h
  split at h
  ·rename_i ht
   simp only[Option.some.injEq]at h
   subst h;subst ht
   refine⟨.text _,by simp only[List.length_drop];omega,fun x hx=>?_,fun p w rs e=>?_,fun p rs e=>?_⟩
   ·simp only[List.mem_singleton]at hx;subst hx;exact heach _ (by simp)
   ·simp at e
   ·simp at e
  split at h
  ·simp at h
  ·rename_i ht hn
   simp only[Option.some.injEq]at h
   subst h
   simp only[not_or,Classical.not_not,not_and]at hn
   obtain⟨h1,h2,h3⟩:=hn
   refine⟨?_,by simp,heach,?_⟩
   ·rcases zcp w with h4|⟨h4,_,h5⟩|⟨h4,_,h5⟩|⟨h4,_,h5⟩|⟨h4,_,h5⟩
    ·exact absurd h4 h2
    ·have hl:ws.length=1:=by omega
     obtain⟨p,rfl⟩:=List.length_eq_one_iff.1 hl
     rcases h5 with rfl|rfl|rfl
     ·exact .read _ _
     ·exact .try_ _ _
     ·exact .write _ _
    ·have hl:ws.length=2:=by omega
     obtain⟨p,q,rfl⟩:∃p q,ws=[p,q]:=by
      match ws,hl with
      | [p,q],_=>exact⟨p,q,rfl⟩
     subst h5
     exact .scan _ _ _
    ·have hl:ws.length=1:=by omega
     obtain⟨p,rfl⟩:=List.length_eq_one_iff.1 hl
     rcases h5 with rfl|rfl|rfl
     ·exact .env _ _
     ·exact .keep _ _
     ·exact .need _ _
    ·have hl:ws.length=0:=by omega
     obtain rfl:=List.length_eq_zero_iff.1 hl
     rcases h5 with rfl|rfl|rfl|rfl|rfl
     ·exact .sort _
     ·exact .uniq _
     ·exact .upper _
     ·exact .count _
     ·exact .fail _
   ·have hmay:∀p ps,ws=p::ps->(jI w).2=true->w5 p=true:=by
     rintro p ps rfl ht2
     have:=h3 ht2
     simpa using this
    refine⟨fun p q rs e=>?_,fun p rs e=>?_⟩
    ·have e1:=congrArg CmdV.words e
     simp only[List.cons.injEq]at e1
     obtain⟨rfl,rfl⟩:=e1
     exact hmay _ _ rfl (by decide)
    ·rcases e with e|e|e <;>
     ·have e1:=congrArg CmdV.words e
      simp only[List.cons.injEq]at e1
      obtain⟨rfl,rfl⟩:=e1
      exact hmay _ _ rfl (by decide)
theorem doH (R:Nat) {c:CmdV} (hc:OKC c) (h1:c.rest.length<=1000000) (h2:∀w∈c.words,w.length<=1000000) {r:qG} {p:zP} (hp:p.OK R r) (hb:RB r) (hbl:r.buf.length<=65536) (hcm:∀t∈r.todo,isC t=true) (hen:r.env.length<=1000000000) (hev:∀x∈r.env,x.2.length<=1000000000000000) :
  q7 Tryz.prog 111 [.av .ptr (.ptr R kO []),.av QQ (zE c)] (p.core R r) fun y H'=>y=.tup []/\qQ R (doR c r) H':=by
 cases hc with
 | read q rs =>
  rw[show doR ⟨[zU,q],rs⟩ r=yN q (.there .add) r by simp[doR]]
  exact zn9 R q rs hp hb hbl
 | try_ q rs =>
  rw[show doR ⟨[wF,q],rs⟩ r=yN q .tr r by simp[doR,zU,wF]]
  exact zoC R q rs hp hb hbl
 | write q rs =>
  rw[show doR ⟨[jN,q],rs⟩ r={ r with over:=⟨2,q,r.buf,0⟩,buf:=[] } by simp[doR,zU,wF,jN,jM,jZ,Q3]]
  exact zjv R q rs hp hb hbl
 | scan q w rs =>
  rw[show doR ⟨[jM,q,w],rs⟩ r=ZD q w { r with seen:=[] } by simp[doR,zU,wF,jM]]
  exact zmH R q w rs hp hb hbl hcm
 | env a rs =>
  rw[show doR ⟨[Q3,a],rs⟩ r=(match r.env.find? (fun x=>decide (x.1=a))with|some x=>y6 x.2 r|none=>w6 10 r) by simp[doR,zU,wF,jM,jZ,Q3]<;>rfl]
  exact znU R a rs hp hb hbl hen hev
 | need a rs =>
  rw[show doR ⟨[kF,a],rs⟩ r=zeB a r by simp[doR,zeB,zU,wF,jM,jZ,Q3,jN,kF]]
  exact zmE R a rs hp hb hbl (h2 a (by simp))
 | keep a rs =>
  rw[show doR ⟨[y3,a],rs⟩ r=kX y3 a r by simp[doR,zU,wF,jM,jZ,Q3,jN,kF,QF,y3]]
  exact zkI R y3 a rs hp hb hbl (by simp)
 | sort rs =>
  rw[show doR ⟨[wV],rs⟩ r=kX wV [] r by simp[doR,zU,wF,jM,jZ,Q3,jN,kF,QF,wV]]
  exact VQ R wV rs hp hb hbl (by simp)
 | uniq rs =>
  rw[show doR ⟨[yG],rs⟩ r=kX yG [] r by simp[doR,zU,wF,jM,jZ,Q3,jN,kF,QF,yG]]
  exact VQ R yG rs hp hb hbl (by simp)
 | upper rs =>
  rw[show doR ⟨[kV],rs⟩ r=kX kV [] r by simp[doR,zU,wF,jM,jZ,Q3,jN,kF,QF,kV]]
  exact VQ R kV rs hp hb hbl (by simp)
 | count rs =>
  rw[show doR ⟨[wC],rs⟩ r=kX wC [] r by simp[doR,zU,wF,jM,jZ,Q3,jN,kF,QF,wC]]
  exact VQ R wC rs hp hb hbl (by simp)
 | fail rs =>
  rw[show doR ⟨[QF],rs⟩ r=w6 15 r by simp[doR,zU,wF,jM,jZ,Q3,jN,kF,QF]]
  exact zmv R rs hp hb hbl
 | text rs =>
  rw[show doR ⟨[jZ],rs⟩ r=y6 (rs++[10]) r by simp[doR,zU,wF,jM,jZ]]
  exact zmT R rs hp hb hbl h1
def okt:TdV->Prop
 | .cmd c=>OKC c/\c.rest.length<=1000000/\∀w∈c.words,w.length<=1000000
 | .line s _=>s.length<=1000000
 | .ans _ _=>True
def Fit (r r':qG):Prop:=(∀k∈r.known,k.is=true->k.data.length<=1000000)->∀t∈r'.todo,t∈r.todo\/okt t
theorem Fit.same {r r':qG} (h:r'.todo=r.todo):Fit r r':=fun _ t ht=>.inl (h▸ht)
theorem Fit.fail (e:Int) (r:qG):Fit r (w6 e r):=.same rfl
theorem Fit.add (s:Txt) (r:qG):Fit r (y6 s r):=by unfold y6;split<;>exact .same rfl
theorem Fit.lines (l:List Txt) (r:qG):Fit r (kH l r):=fun hk t ht=>Fit.add _ { r with buf:=[] } hk t ht
theorem Fit.co (k:CoV) (x:KnV) (r:qG) (hx:x.is=true->x.data.length<=1000000):Fit r (coR k x r):=by
 cases hi:x.is with
 | false =>
  cases k with
  | tr=>rw[show coR .tr x r=r by simp[coR,hi]];exact .same rfl
  | there t=>rw[show coR (.there t) x r=w6 10 r by simp[coR,hi]];exact .fail _ _
 | true =>
  cases k with
  | tr=>rw[show coR .tr x r=y6 x.data r by simp[coR,hi]];exact .add _ _
  | there t=>cases t with
   | add=>rw[show coR (.there .add) x r=y6 x.data r by simp[coR,hi,thR]];exact .add _ _
   | scan w =>
    rw[show coR (.there (.scan w)) x r={ r with todo:=r.todo++(qU x.data).reverse.map fun s=>.line s w } by simp[coR,hi,thR]]
    intro _ t ht
    rcases List.mem_append.1 ht with ht|ht
    ·exact .inl ht
    ·obtain⟨s,hs,rfl⟩:=List.mem_map.1 ht
     right
     have:=W8 (List.mem_reverse.1 hs)
     have:=hx hi
     show s.length<=1000000
     omega
theorem Fit.ask (p:Txt) (k:CoV) (r:qG):Fit r (yN p k r):=by
 intro hk
 unfold yN
 split
 ·rename_i x hx
  exact Fit.co k x r (hk x (GV hx).1) hk
 ·split
  ·exact Fit.fail _ _ hk
  ·intro t ht
   rcases List.mem_append.1 ht with ht|ht
   ·exact .inl ht
   ·rw[List.mem_singleton.1 ht];exact .inr trivial
theorem Fit.scan (p w:Txt) (r:qG):Fit r (ZD p w r):=fun hk t ht=>Fit.ask p (.there (.scan w)) { r with seen:=r.seen++[p] } hk t ht
theorem Fit.line (s w:Txt) (r:qG):Fit r (QP s w r):=by
 unfold QP
 split
 ·split
  ·exact .add _ _
  split
  ·exact .same rfl
  ·exact .scan _ _ _
 ·exact .add _ _
theorem Fit.turn (n a:Txt) (r:qG):Fit r (kX n a r):=by
 unfold kX
 split
 ·exact .lines _ _
 split
 ·exact .lines _ _
 split
 ·exact .same rfl
 split
 ·exact .same rfl
 split
 ·exact .lines _ _
 ·exact .same rfl
theorem Fit.cmd (c:CmdV) (r:qG):Fit r (doR c r):=by
 unfold doR
 simp only
 split
 ·exact .ask _ _ _
 split
 ·exact .ask _ _ _
 split
 ·exact fun hk t ht=>Fit.scan _ _ { r with seen:=[] } hk t ht
 split
 ·exact .add _ _
 split
 ·split
  ·exact .add _ _
  ·exact .fail _ _
 split
 ·exact .same rfl
 split
 ·split
  ·exact .same rfl
  ·exact .fail _ _
 split
 ·exact .fail _ _
 ·exact .turn _ _ _
theorem zhG {r:qG} (hk:∀k∈r.known,k.is=true->k.data.length<=1000000) (ho:∀t∈r.todo,okt t):∀t∈(yX r).todo,okt t:=by
 rcases List.eq_nil_or_concat r.todo with ht|⟨l,t,ht⟩
 ·rw[W7 ht];exact ho
 ·rw[List.concat_eq_append]at ht
  rw[W9 ht]
  have hl:∀x∈l,okt x:=fun x hx=>ho x (by rw[ht];simp[hx])
  have go:∀ {r'},Fit { r with todo:=l } r'->∀x∈r'.todo,okt x:=fun h x hx=>(h hk x hx).elim (hl x) id
  cases t with
  | cmd c=>exact go (.cmd _ _)
  | line s w=>exact go (.line _ _ _)
  | ans k p =>
   refine go (.co _ _ _ ?_)
   cases hf:j3 r.known p with
   | none=>simp[hf,kn0]
   | some x=>simpa[hf]using hk x (GV hf).1
structure kK (r:qG):Prop where
 inv:JN r
 ok:∀t∈r.todo,okt t
 en:r.env.length<=1000000000
 ev:∀x∈r.env,x.2.length<=1000000000000000
theorem JN.s {r:qG} (h:JN r):r.known.length<=500/\(∀k∈r.known,k.is=true->k.data.length<=1000000)/\r.buf.length<=65536/\r.todo.length<=700000000:=by
 rcases h with⟨h,_⟩|⟨l,k,p,e,h,_⟩
 ·exact⟨h.nk,h.dat,h.buf,by have:=h.len;omega⟩
 ·refine⟨h.nk,h.dat,h.buf,?_⟩
  have:=h.len
  rw[e]
  simp only[List.length_append,List.length_cons,List.length_nil]at this |-
  omega
theorem kK.step {r:qG} (h:kK r) (hs:kE r=false):kK (yX r):=by
 obtain⟨h1,_,h3⟩:=pD h.inv hs
 have he:=(zgA r).en
 exact⟨h1,zhG h.inv.s.2.1 h.ok,by rw[he];exact h.en,by rw[he];exact h.ev⟩
theorem kK.runN:∀(n:Nat) {r r':qG},runN n r=some r'->kK r->kK r'
 | 0,r,r',h,_=>by cases h
 | n+1,r,r',h,hg=>by
  rw[Go.Proofs.YtdkieabmeiojjaaGreatDoor.runN]at h
  by_cases hs:kE r=true
  ·rw[if_pos hs]at h;cases h;exact hg
  ·rw[if_neg hs]at h
   exact kK.runN n h (hg.step (by simpa using hs))
theorem kK.settle {r:qG} (h:kK r):kK (k9 r):=kK.runN _ (y9 h.inv).1 h
theorem zeV (c:CmdV):(zE c).er=zE c:=by simp[zE,AV.er,AV.ers,AV.ers_eq,strs,Function.comp_def]
theorem zmC (R br bc:Nat) {c:CmdV} (hc:OKC c) (h1:c.rest.length<=1000000) (h2:∀w∈c.words,w.length<=1000000) {r:qG} {p:zP} (hp:p.OK R r) (hbr:(br,qV R)∈p.S) (hbc:(bc,kA c)∈p.S) (hb:RB r) (hbl:r.buf.length<=65536) (hcm:∀t∈r.todo,isC t=true) (hen:r.env.length<=1000000000) (hev:∀x∈r.env,x.2.length<=1000000000000000) :
  q7 Tryz.prog 110 [.av .ptr (.ptr br .ptr []),.av .ptr (.ptr bc QQ [])] (p.core R r) fun y H'=>y=.tup []/\qQ R (doR c r) H':=by
 have hH:qQ R r (p.core R r):=⟨p,hp,rfl⟩
 have hdo:=doH R hc h1 h2 hp hb hbl hcm hen hev
 have her:=hH.er
 obtain⟨H,hHe⟩:∃H,H=p.core R r:=⟨_,rfl⟩
 have hm:(br,qV R)∈H:=hHe▸zP.memS hbr
 have hm2:(bc,kA c)∈H:=hHe▸zP.memS hbc
 rw[<-hHe]at hH her hdo |-
 refine q7.nodup fun hnd=>?_
 have hne:br≠bc:=YT hnd hm hm2 (by simp[qV,kA])
 have hne':¬bc=br:=fun e=>hne e.symm
 obtain⟨rest,hpm⟩:=zkQ hm hm2 hne
 refine q7.sub (R:=fun y H'=>y=.tup []/\∃H2,Ab.HSub H2 H'/\qQ R (doR c r) H2) ?_ fun y H' ⟨h1,H2,h2,h3⟩ _=>⟨H2,h2,h1,h3⟩
 refine q7.perm hpm ?_
 refine zov Tryz.func110 cf0 fun imm0 w0=>?_
 simp (disch:=omega) [zz,qV,kA,hne,hne']
 refine qD (R:=fun y H'=>y=.tup []/\qQ R (doR c r) H') H [] (by simpa[qV,kA]using hpm.symm) rfl (by simp[qE]) (by simp) ?_ ?_
 ·rw[her]
  simpa[TV.er,AV.er,zeV]using hdo
 rintro y H' ⟨rfl,hh⟩ _
 refine⟨H',by simpa using HSub.refl _,?_⟩
 have hhe:=hh.er
 simp (disch:=omega) [zz,Tryz.f110,hhe]
 exact⟨H',HSub.refl _,hh⟩
theorem zpv (R:Nat) {t:TdV} {v:AV} {r:qG} {p:zP} (hp:p.OK R r) (ht:PV R p.q p.S t v) (hot:okt t) (hb:RB r) (hbl:r.buf.length<=65536) (hcm:isC t=true->∀t∈r.todo,isC t=true) (hen:r.env.length<=1000000000) (hev:∀x∈r.env,x.2.length<=1000000000000000) :
  VC1 v [] (p.core R r) fun y H'=>y=.tup []/\qQ R (tdR t r) H':=by
 cases t with
 | cmd c =>
  obtain⟨br,bc,rfl,h1,h2⟩:=ht
  obtain⟨o1,o2,o3⟩:=hot
  exact⟨[.av .ptr (.ptr br .ptr []),.av .ptr (.ptr bc QQ [])],rfl,by simp,zmC R br bc o1 o2 o3 hp h1 h2 hb hbl (hcm rfl) hen hev⟩
 | ans k pth =>
  obtain⟨bt,br,bp,kv,rfl,h1,h2,h3,h4⟩:=ht
  exact⟨[.av .ptr (.ptr bt .func []),.av .ptr (.ptr br .ptr []),.av .ptr (.ptr bp .str [])],rfl,by simp,znk R bt br bp k kv pth hp h1 h2 h3 h4 hb⟩
 | line s w =>
  obtain⟨Q,bs,bw,br,bm,hq,rfl,hn,h1,h2,h3,h4⟩:=ht
  exact⟨[.av .ptr (.ptr bs .str []),.av .ptr (.ptr bw .str []),.av .ptr (.ptr br .ptr []),.av .ptr (.ptr bm xL [])],rfl,by simp,zjx R Q bs bw br bm s w hp hq hn h1 h2 h3 h4 hot hb⟩
theorem znG {c:Ctx} {code:Code} {K:Exit->St->Prop} {s:St} (h:s.H.keys.Nodup->AT c code K s):AT c code K s:=fun a w g β hS=>h hS.rep.nodup a w g β hS
abbrev ziD:Cfg:=⟨fun _=>false,fun n=>n==1000004||n==51⟩
theorem zbL (R:Nat) {r:qG} {H:q8} (hH:qQ R r H) (hg:kK r) :
  q7 Tryz.prog 123 [.av .ptr (.ptr R kO [])] H fun y H'=>y=.tup []/\qQ R (k9 r) H':=by
 have hsp:=(y9 hg.inv).1
 obtain⟨rf,hrf⟩:∃rf,rf=k9 r:=⟨_,rfl⟩
 rw[<-hrf]at hsp |-
 have her:=hH.er
 refine q7.sub (R:=fun y H'=>y=.tup []/\∃H2,Ab.HSub H2 H'/\qQ R rf H2) ?_ fun y H' ⟨h1,H2,h2,h3⟩ _=>⟨H2,h2,h1,h3⟩
 refine zov Tryz.func123 ziD fun imm0 w0=>?_
 simp (disch:=omega) [zz]
 refine AT.loop' (α:=Nat × qG × q8) (fun x=>St.of [(0,.av .ptr (.ptr R kO []))] [] (fun _=>0) x.2.2)
  (fun x=>runN x.1 x.2.1=some rf/\kK x.2.1/\qQ R x.2.1 x.2.2) (fun x=>x.1) (MR r+2,r,H) ?_ ?_ ?_
 ·apply Le.of<;>simp[zR,qI]
 ·exact⟨hsp,hg,hH⟩
 rintro⟨n,ra,H1⟩ ⟨hn,hg1,hH1⟩ KL hN hE
 simp only at hn hg1 hH1 hN
 obtain⟨p,hp,rfl⟩:=hH1
 have hera:=(show qQ R ra (p.core R ra) from⟨p,hp,rfl⟩).er
 obtain⟨rest,hrest⟩:∃rest,rest=kY p ra:=⟨_,rfl⟩
 have hco:=zY p R ra
 rw[<-hrest]at hco
 have her3:=hera
 rw[hco,q8.er_cons]at her3
 have e6:=(List.cons.inj her3).2
 obtain⟨_,e2⟩:=hp.todo.er hp.tds
 have e3:=zH ra.env
 cases n with
 | zero=>cases hn
 | succ n =>
 rw[Go.Proofs.YtdkieabmeiojjaaGreatDoor.runN]at hn
 by_cases hs:kE ra=true
 ·rw[if_pos hs]at hn
  have hn':=Option.some.inj hn
  subst hn'
  rw[hco]
  by_cases hk:ra.over.kind=0
  ·have hw:ra.waits=true:=by
    unfold kE at hs;simpa[hk]using hs
   refine zrd ziD ?_
   simp (disch:=omega) [zz,qJ,jA,hk,hw]
   refine hE _ _ (by simp) ?_
   simp (disch:=omega) [zz,e2,e3,e6,Tryz.f123]
   refine⟨p.core R ra,?_,p,hp,rfl⟩
   rw[hco]
   simp only[qJ,jA,hk,hw]
   exact HSub.refl _
  ·refine zrd ziD ?_
   simp (disch:=omega) [zz,qJ,jA,hk]
   refine hE _ _ (by simp) ?_
   simp (disch:=omega) [zz,e2,e3,e6,Tryz.f123]
   refine⟨p.core R ra,?_,p,hp,rfl⟩
   rw[hco]
   simp only[qJ,jA]
   exact HSub.refl _
 ·rw[if_neg hs]at hn
  obtain⟨hk,hw⟩:=zbW hs
  have hlen:=hp.tds.len
  have hsb:=hg1.inv.s
  have endc:∀ta':AV,p.ta=ta'->ra.todo=[]->qQ R rf ((R,qJ ta' (zO ra.env) ra.buf p.K ra.asks ra.waits ⟨3,[],[],0⟩)::rest):=by
   intro ta' hta ht
   have h1:yX ra={ ra with over:=⟨3,[],[],0⟩ }:=W7 ht
   have h2:rf=yX ra:=by
    have hst:kE (yX ra)=true:=by rw[h1];simp[kE]
    cases n with
    | zero=>cases hn
    | succ n=>rw[Go.Proofs.YtdkieabmeiojjaaGreatDoor.runN,if_pos hst]at hn;exact(Option.some.inj hn).symm
   rw[h2,h1]
   refine⟨p,⟨hp.todo,hp.seen,hp.box,hp.tds⟩,?_⟩
   rw[zY,hrest,<-hta];rfl
  rcases hp.todo with⟨hfs,hta,hTA⟩|⟨T,cap,j,hj,hta,hcap,hTA⟩
  ·have ht:ra.todo=[]:=List.length_eq_zero_iff.1 (by rw[hlen,hfs];rfl)
   have hend:=endc _ rfl ht
   rw[hco]
   rw[hta]at hend e2 |-
   refine zrd ziD ?_
   simp (disch:=omega) [zz,qJ,jA,hk,hw]
   refine hE _ _ (by simp) ?_
   simp (disch:=omega) [zz,e3,e6,Tryz.f123]
   refine⟨_,?_,hend⟩
   simp only[qJ,jA,hw]
   exact HSub.refl _
  ·by_cases hz:p.fs.length=0
   ·have ht:ra.todo=[]:=List.length_eq_zero_iff.1 (by rw[hlen,hz])
    have hend:=endc _ rfl ht
    rw[hco]
    rw[hta,hz]at hend e2 |-
    refine zrd ziD ?_
    simp (disch:=omega) [zz,qJ,jA,hk,hw]
    refine hE _ _ (by simp) ?_
    simp (disch:=omega) [zz,e3,e6,Tryz.f123]
    refine⟨_,?_,hend⟩
    simp only[qJ,jA,hw]
    exact HSub.refl _
   ·rcases List.eq_nil_or_concat ra.todo with ht|⟨l,t,ht⟩
    ·rw[ht]at hlen;exact absurd hlen.symm hz
    rw[List.concat_eq_append]at ht
    have htds:=hp.tds
    rw[ht]at htds
    obtain⟨us,v,hfs,htl,htv⟩:=yJ.snoc htds
    have hstep:=W9 ht
    obtain⟨rest2,hrest2⟩:∃rest2:q8,rest2=p.QH++p.S:=⟨_,rfl⟩
    have hco2:p.core R ra=(R,qJ p.ta (zO ra.env) ra.buf p.K ra.asks ra.waits ra.over)::(p.K,.map 9 74 (knE ra.known))::(T,.var (.arr cap 1) (.agg (us++(v::j))))::rest2:=by
     rw[hrest2];simp only[zP.core,hTA,hfs,List.append_assoc,List.singleton_append,List.cons_append,List.nil_append]
    obtain⟨p1,hp1e⟩:∃p1:zP,p1={ p with fs:=us,ta:=.msl T 1 0 us.length cap,TA:=[(T,.var (.arr cap 1) (.agg (us++(v::j))))] }:=⟨_,rfl⟩
    have hul:p.fs.length=us.length+1:=by rw[hfs];simp
    have hp1:p1.OK R { ra with todo:=l }:=by
     rw[hp1e]
     refine⟨.inr ⟨T,cap,v::j,JK.cons htv.erk hj,rfl,by simp only[List.length_cons];omega,rfl⟩,hp.seen,hp.box,htl⟩
    have hco3:p1.core R { ra with todo:=l }=(R,qJ (.msl T 1 0 us.length cap) (zO ra.env) ra.buf p.K ra.asks ra.waits ra.over)::(p.K,.map 9 74 (knE ra.known))::(T,.var (.arr cap 1) (.agg (us++(v::j))))::rest2:=by
     rw[hrest2,hp1e];simp only[zP.core,List.singleton_append,List.cons_append,List.nil_append]
    have htd:=zpv R hp1 (by rw[hp1e];exact htv) (hg1.ok t (by rw[ht];simp)) ⟨by simp only;omega,by have:=hsb.2.2.2;rw[ht]at this;simp only[List.length_append,List.length_cons,List.length_nil]at this |-;omega,hsb.2.1,by simp only;omega⟩ hsb.2.2.1 ?_ hg1.en hg1.ev
    rotate_left
    ·intro hc
     rcases hg1.inv with⟨h,_⟩|⟨l',k',p',e',h,_⟩
     ·rcases h.pop ht with⟨_,h2,_⟩|⟨h1,_⟩
      ·exact h2
      ·cases t<;>simp[isC,isL]at hc h1
     ·rw[ht]at e'
      obtain⟨_,h6⟩:=List.append_inj' e' rfl
      cases h6
      simp[isC]at hc
    have her2:=(show qQ R { ra with todo:=l } (p1.core R { ra with todo:=l }) from⟨p1,hp1,rfl⟩).er
    rw[hco3]at htd her2
    refine znG fun hnd=>?_
    rw[hco2]at hnd |-
    simp only[St.of,q8.keys,List.map_cons,List.nodup_cons,List.mem_cons,not_or]at hnd
    obtain⟨⟨n1,n2,_⟩,⟨n3,_⟩,_⟩:=hnd
    have sy:∀ {a b:Nat},¬a=b->¬b=a:=fun h e=>h e.symm
    have n1':=sy n1;have n2':=sy n2;have n3':=sy n3
    have hg:(us++v::j)[us.length]?=some v:=by simp
    have hin:us.length<cap:=by omega
    have hnz:¬(us.length:Int)+1=0:=by omega
    rw[hta,hul]
    refine zrd ziD ?_
    simp (disch:=omega) [zz,qJ,jA,hk,hw,n1,n2,n3,n1',n2',n3',hnz,hg,hin]
    refine⟨by omega,?_⟩
    refine jO.ofK [0,1,2,3,4,5,6,7,8,9,10,11,12,13,14] [] [] (by kernel_rfl) ?_
    simp (disch:=omega) [zz,n1,n2,n3,n1',n2',n3']
    (repeat with_reducible refine om ?_)
    refine Q6 (R:=fun y H'=>y=.tup []/\qQ R (tdR t { ra with todo:=l }) H') ((R,qJ (.msl T 1 0 us.length cap) (zO ra.env) ra.buf p.K ra.asks ra.waits ra.over)::(p.K,.map 9 74 (knE ra.known))::(T,.var (.arr cap 1) (.agg (us++(v::j))))::rest2) [] ?_ her2 (by simp[qE]) (by simpa using htd) ?_
    ·rw[List.append_nil]
     simp only[qJ,jA,hk,hw]
     exact List.Perm.refl _
    rintro y H' ⟨rfl,hh⟩ _
    refine⟨H',by simpa using HSub.refl _,?_⟩
    rw[<-hstep]at hh
    simp (disch:=omega) [zz]
    refine hN _ (n,yX ra,H') ?_ ⟨hn,hg1.step (by simpa using hs),hh⟩ (by simp only;omega)
    apply Le.of<;>simp[zR,qI]
end
end Go.Proofs.YtdkieabmeiojjaaGreatDoor
