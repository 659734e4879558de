/- A tool that goes on: a file is waited for. No condition beyond each theorem's own. -/
import Derived.Test.YtidhkfcjichiiaaGreatDoorKCToK9
set_option linter.unusedSimpArgs false
set_option linter.unusedVariables false
set_option linter.unusedSectionVars false
section
set_option maxRecDepth 100000
namespace Go.Proofs.YtidhkfcjichiiaaGreatDoor
open Go Go.Ab
open Classical
variable [Sel] [SelPow] [SelMax]
abbrev zrw:Cfg:=⟨fun n=>n==3||n==4||n==5,fun n=>n==1000006||n==2000033||n==45||n==1000007||n==2000043||n==35⟩
theorem zbP (l:List KnV):List.map (fun p:AV × AV=>(p.1.er,p.2.er)) (knE l)=knE l:=by
 have:=zhD l
 rw[HObj.er_map]at this
 exact(HObj.map.inj this).2.2
set_option maxHeartbeats 8000000 in
theorem zjr (R:Nat) (pth:Txt) (k:CoV) (kv:AV) {r:RunV} {p:zY} (hp:p.OK R r) (hk:UX R p.q p.S k kv) (hf:zQ r.known pth=none) (hn:¬500≤r.known.length) (htd:r.todo.length≤1000000000) :
  q7 Tryz.prog 112 [.av .ptr (.ptr R kQ []),.av .str (.s pth),.av .func kv] (p.core R r) fun y H'=>y=.tup []∧z6 R (Q6 pth k r) H':=by
 have her:=(show z6 R r (p.core R r) from⟨p,hp,rfl⟩).er
 obtain⟨hk1,hk2⟩:=hk.er
 have hmf:=X6 pth r.known
 rw[hf,Option.map_none]at hmf
 have hkl:(knE r.known).length=r.known.length:=by simp[knE]
 obtain⟨r2,hr2⟩:∃r2:RunV,r2={ r with asks:=pth,waits:=true,todo:=r.todo++[.ans k pth] }:=⟨_,rfl⟩
 have hask:Q6 pth k r=r2:=by simp[Q6,hf,hn,hr2]
 rw[hask]
 have hge:¬(500:Int)≤r.known.length:=by omega
 refine q7.nodup fun hnd=>?_
 obtain⟨n1,n2⟩:=zY.KR hnd
 have fin:∀(b3 b4 b5:Nat) (ta':AV) (TA' H':q8),zaQ (p.fs++[.fn 167 [.ptr b5 .func [],.ptr b3 .ptr [],.ptr b4 .str []]]) ta' TA'→
   Ab.HSub ((R,qW ta' (zS r.env) r.buf p.K pth true r.over)::(p.K,.map 9 57 (knE r.known))::(b5,yE kv)::(b4,zF pth)::(b3,zA R)::(TA'++(p.QH++p.S))) H'→∃H2,Ab.HSub H2 H'∧z6 R r2 H2:=by
  intro b3 b4 b5 ta' TA' H' hT hsub
  refine⟨_,zcz hsub ?_,{ p with TA:=TA',S:=(b5,yE kv)::(b4,zF pth)::(b3,zA R)::p.S,fs:=p.fs++[.fn 167 [.ptr b5 .func [],.ptr b3 .ptr [],.ptr b4 .str []]],ta:=ta' },⟨hT,by rw[hr2];exact hp.seen,?_,?_⟩,rfl⟩
  ·rw[hr2]
   refine List.perm_iff_count.2 fun a=>?_
   simp only[zY.core,List.count_append,List.count_cons]
   omega
  ·show q8.er ((b5,yE kv)::(b4,zF pth)::(b3,zA R)::p.S)=_
   simp only[q8.er_cons,hp.box,zF,yE,zA,HObj.er_var,AV.erk,hk2]
  ·rw[hr2]
   have hm:∀z∈p.S,z∈(b5,yE kv)::(b4,zF pth)::(b3,zA R)::p.S:=fun z hz=>by simp[hz]
   exact(hp.tds.mono hm).one ⟨b5,b3,b4,kv,rfl,by simp,by simp,by simp,hk.mono hm⟩
 refine q7.sub (R:=fun y H'=>y=.tup []∧∃H2,Ab.HSub H2 H'∧z6 R r2 H2) ?_ fun y H' ⟨h1,H2,h2,h3⟩ _=>⟨H2,h2,h1,h3⟩
 refine q7.of_vc laid mixed Tryz.func112 rfl zrw (by kernel_rfl) (by simp[Tryz.ntmps112]) fun imm0 w0=>?_
 (simp (maxSteps:=2000000) (disch:=first|omega|assumption) [zz,-List.reduceReplicate,zY.core,qW])
 intro b3 m1 m2 m3 m4 m5 b4 o0 o1 o2 o3 o4 o5 b5 q6 q0 q1 q2 q3 q4 q5
 have sy:∀ {a b:Nat},¬a=b→¬b=a:=fun h e=>h e.symm
 have m1':=sy m1;have m2':=sy m2;have o0':=sy o0;have o1':=sy o1;have o2':=sy o2;have q6':=sy q6;have q0':=sy q0;have q1':=sy q1;have q2':=sy q2
 (simp (maxSteps:=2000000) (disch:=first|omega|assumption) [zz,-List.reduceReplicate,hmf,hk1,hk2,n1,n2,m1,m2,m1',m2',o0,o1,o2,o0',o1',o2',q6,q0,q1,q2,q6',q0',q1',q2'])
 (repeat with_reducible refine om ?_)
 intro _
 refine jW.ofK [1,0,2,3,4,5,6,7,8] [1] [b3] (by kernel_rfl) ?_
 (simp (maxSteps:=2000000) (disch:=first|omega|assumption) [zz,-List.reduceReplicate,n1,n2,m1,m2,m1',m2',o0,o1,o2,o0',o1',o2',q6,q0,q1,q2,q6',q0',q1',q2'])
 (repeat with_reducible refine om ?_)
 obtain⟨rest,hrest⟩:∃rest:q8,rest=p.QH++p.S:=⟨_,rfl⟩
 have hrer:rest.er=rest:=by
  rw[zY.core]at her
  exact WW.2 fun z hz=>WW.1 her z (by rw[hrest]at hz;simp only[List.mem_cons,List.mem_append]at hz ⊢;exact .inr (.inr (.inr hz)))
 have hknE:=zbP r.known
 rw[←hrest]
 rw[←hrest]at fin
 have hndk:(R::p.K::(p.TA.keys++rest.keys)).Nodup:=by
  have:(p.core R r).keys=R::p.K::(p.TA.keys++rest.keys):=by rw[hrest];simp[zY.core,q8.keys]
  rw[←this];exact hnd
 rcases hp.todo with⟨hfs,hta,hTA⟩|⟨T,cap,j,hj,hta,hcap,hTA⟩
 ·rw[hta,hTA,List.nil_append]
  rw[hfs]at fin
  refine jW.ofK [0,1,2,3,4,5,6,7,8,9,10] [0] [b3] (by kernel_rfl) ?_
  (simp (maxSteps:=2000000) (disch:=first|omega|assumption) [zz,-List.reduceReplicate,n1,n2,m1,m2,m1',m2',o0,o1,o2,o0',o1',o2',q6,q0,q1,q2,q6',q0',q1',q2'])
  (repeat with_reducible refine om ?_)
  intro b cap c5 c4 c3 c1 c2 c6 c7
  have c1':=sy c1;have c2':=sy c2;have c3':=sy c3;have c4':=sy c4;have c5':=sy c5
  refine⟨by assumption,?_⟩
  (repeat with_reducible refine om ?_)
  (simp (maxSteps:=2000000) (disch:=first|omega|assumption) [zz,-List.reduceReplicate,n1,n2,m1,m2,m1',m2',o0,o1,o2,o0',o1',o2',q6,q0,q1,q2,q6',q0',q1',q2',c5,c4,c3,c1,c2,c5',c4',c3',c1',c2'])
  (simp (maxSteps:=2000000) (disch:=first|omega|assumption) [zz,-List.reduceReplicate,Tryz.f112,hrer,hknE,hk2,zV,Q5])
  rw[show AV.erks (List.replicate (cap-1) AV.nilfn)=_ from JK.rep rfl _]
  refine fin b3 b4 b5 (.msl b 1 0 1 cap) [(b,.var (.arr cap 1) (.agg (_::List.replicate (cap-1) .nilfn)))] _ (.inr ⟨b,cap,List.replicate (cap-1) .nilfn,JK.rep rfl _,rfl,by simp;omega,rfl⟩) (HSub.of_perm ?_)
  refine List.perm_iff_count.2 fun a=>?_
  simp only[List.count_append,List.count_cons,List.count_nil,zF,zA,yE,qW]
  omega
 ·rw[hTA]at hndk
  simp only[q8.keys,List.map_cons,List.map_nil,List.cons_append,List.nil_append,List.nodup_cons,List.mem_cons,not_or]at hndk
  obtain⟨⟨k1,t1',k2⟩,⟨t2',k3⟩,k4,k5⟩:=hndk
  have t1:=sy t1';have t2:=sy t2'
  rw[hTA]at m3 o3 q3
  simp only[q8.keys,List.map_cons,List.map_nil,List.mem_cons,List.not_mem_nil,or_false]at m3 o3 q3
  have t3':=m3;have t4':=o3;have t5':=q3
  have t3:=sy t3';have t4:=sy t4';have t5:=sy t5'
  rw[hta,hTA,List.cons_append,List.nil_append]
  have hfl:=hp.tds.len
  obtain⟨fs,hfs⟩:∃fs,fs=p.fs:=⟨_,rfl⟩
  rw[←hfs]at fin hfl hcap ⊢
  have hjfs:=hp.tds.jk
  rw[←hfs]at hjfs
  refine jW.ofK [0,1,2,3,4,5,6,7,8,9,10] [0] [b3] (by kernel_rfl) ?_
  (simp (maxSteps:=2000000) (disch:=first|omega|assumption) [zz,-List.reduceReplicate,n1,n2,m1,m2,m1',m2',o0,o1,o2,o0',o1',o2',q6,q0,q1,q2,q6',q0',q1',q2',t5,t4,t3,t1,t2,t5',t4',t3',t1',t2'])
  (repeat with_reducible refine om ?_)
  refine⟨fun hroom=>?_,fun hgrow=>?_⟩
  ·(repeat with_reducible refine om ?_)
   (simp (maxSteps:=2000000) (disch:=first|omega|assumption) [zz,-List.reduceReplicate,Tryz.f112,hrer,hknE,hk2,zV,Q5])
   rw[show AV.erks (fs++AV.fn 167 [.ptr b5 .func [],.ptr b3 .ptr [],.ptr b4 .str []]::j.tail)=_ from hjfs.app (JK.cons rfl hj.tail),List.append_cons]
   refine fin b3 b4 b5 (.msl T 1 0 (fs.length+1) cap) [(T,.var (.arr cap 1) (.agg (fs++[_]++j.tail)))] _ (.inr ⟨T,cap,j.tail,hj.tail,by simp,by simp;omega,rfl⟩) (HSub.of_perm ?_)
   refine List.perm_iff_count.2 fun a=>?_
   simp only[List.count_append,List.count_cons,List.count_nil,zF,zA,yE,qW]
   omega
  ·intro b cap2 c5 c4 c3 c1 c2 c8 c6 c7
   have c1':=sy c1;have c2':=sy c2;have c3':=sy c3;have c4':=sy c4;have c5':=sy c5;have c8':=sy c8
   refine⟨by assumption,?_⟩
   (repeat with_reducible refine om ?_)
   (simp (maxSteps:=2000000) (disch:=first|omega|assumption) [zz,-List.reduceReplicate,n1,n2,m1,m2,m1',m2',o0,o1,o2,o0',o1',o2',q6,q0,q1,q2,q6',q0',q1',q2',t5,t4,t3,t1,t2,t5',t4',t3',t1',t2',c5,c4,c3,c1,c2,c5',c4',c3',c1',c2',c8,c8'])
   (simp (maxSteps:=2000000) (disch:=first|omega|assumption) [zz,-List.reduceReplicate,Tryz.f112,hrer,hknE,hk2,zV,Q5])
   rw[show AV.erks (fs++AV.fn 167 [.ptr b5 .func [],.ptr b3 .ptr [],.ptr b4 .str []]::List.replicate (cap2-(fs.length+1)) AV.nilfn)=_ from hjfs.app (JK.cons rfl (JK.rep rfl _)),List.append_cons]
   refine fin b3 b4 b5 (.msl b 1 0 (fs.length+1) cap2) [(b,.var (.arr cap2 1) (.agg (fs++[_]++List.replicate (cap2-(fs.length+1)) .nilfn)))] _ (.inr ⟨b,cap2,_,JK.rep rfl _,by simp,by simp;omega,rfl⟩) ⟨(T,.var (.arr cap 1) (.agg (AV.erks (fs++j))))::_,?_,(List.Sublist.refl _).cons _⟩
   refine List.perm_iff_count.2 fun a=>?_
   simp only[List.count_append,List.count_cons,List.count_nil,zF,zA,yE,qW]
   omega
theorem dY {kn:List KnV} {p:Txt} {k:KnV} (h:zQ kn p=some k):k∈kn:=List.mem_of_find?_eq_some h
structure RB (r:RunV):Prop where
 buf:r.buf.length≤1000000000
 todo:r.todo.length≤1000000000
 dat:∀k∈r.known,k.is=true→k.data.length≤1000000
 nk:r.known.length≤1000000000
theorem zey (R:Nat) (pth:Txt) (k:CoV) (kv:AV) {r:RunV} {p:zY} (hp:p.OK R r) (hk:UX R p.q p.S k kv) (hb:RB r) :
  q7 Tryz.prog 112 [.av .ptr (.ptr R kQ []),.av .str (.s pth),.av .func kv] (p.core R r) fun y H'=>y=.tup []∧z6 R (Q6 pth k r) H':=by
 cases hf:zQ r.known pth with
 | some x=>exact zgV R pth x k kv hp hk hf hb.buf (hb.dat x (dY hf)) hb.todo
 | none =>
  by_cases hn:500≤r.known.length
  ·exact zj4 R pth k kv hp hk hf hn hb.nk
  ·exact zjr R pth k kv hp hk hf hn hb.todo
theorem zdy (p:Txt):∀l:List Txt,p∉l→xX (.s p) (.b true) (QY l)=QY (l++[p])
 | [],_=>rfl
 | x::l,h=>by
  have h1:x≠p:=fun e=>h (by simp[e])
  have ih:=zdy p l fun e=>h (by simp[e])
  simp only[QY,List.map_cons,xX,List.cons_append,AV.s.injEq,h1,if_false]at ih ⊢
  rw[ih]
abbrev zrD:Cfg:=⟨fun n=>n==4||n==6||n==7,fun n=>n==1000002||n==2000014||n==15⟩
set_option maxHeartbeats 8000000 in
theorem zgl (R Q:Nat) (pth w:Txt) {r:RunV} {p:zY} (hp:p.OK R r) (hq:p.q=some Q) (hb:RB r) (hn:pth∉r.seen) :
  q7 Tryz.prog 116 [.av .ptr (.ptr R kQ []),.av .str (.s pth),.av .str (.s w),.av YR (.map (some Q))] (p.core R r) fun y H'=>y=.tup []∧z6 R (ZL pth w r) H':=by
 have her:=(show z6 R r (p.core R r) from⟨p,hp,rfl⟩).er
 obtain⟨r1,hr1⟩:∃r1:RunV,r1={ r with seen:=r.seen++[pth] }:=⟨_,rfl⟩
 have hsc:ZL pth w r=Q6 pth (.there (.scan w)) r1:=by rw[ZL,hr1]
 rw[hsc]
 have hb1:RB r1:=by rw[hr1];exact⟨hb.buf,hb.todo,hb.dat,hb.nk⟩
 have hQH:p.QH=[(Q,.map 9 4 (QY r.seen))]:=by
  rcases hp.seen with⟨h1,_⟩|⟨Q',h1,h2⟩
  ·rw[hq]at h1;cases h1
  ·rw[hq]at h1;cases h1;exact h2
 refine q7.nodup fun hnd=>?_
 have sy:∀ {a b:Nat},¬a=b→¬b=a:=fun h e=>h e.symm
 have hpm:(p.core R r).Perm ((Q,.map 9 4 (QY r.seen))::(R,qW p.ta (zS r.env) r.buf p.K r.asks r.waits r.over)::(p.K,.map 9 57 (knE r.known))::(p.TA++p.S)):=by
  refine List.perm_iff_count.2 fun a=>?_
  simp only[zY.core,hQH,List.count_append,List.count_cons,List.count_nil]
  omega
 refine q7.sub (R:=fun y H'=>y=.tup []∧∃H2,Ab.HSub H2 H'∧z6 R (Q6 pth (.there (.scan w)) r1) H2) ?_ fun y H' ⟨h1,H2,h2,h3⟩ _=>⟨H2,h2,h1,h3⟩
 refine q7.perm hpm ?_
 have hnd2:=((hpm.map Prod.fst).nodup_iff).1 hnd
 refine q7.of_vc laid mixed Tryz.func116 rfl zrD (by kernel_rfl) (by simp[Tryz.ntmps116]) fun imm0 w0=>?_
 (simp (maxSteps:=2000000) (disch:=first|omega|assumption) [zz,-List.reduceReplicate])
 intro b4 m1 m2 m3 m4 m5 b6 o0 o1 o2 o3 o4 o5 b7 q6 q0 q1 q2 q3 q4 q5
 have m1':=sy m1;have m2':=sy m2;have m3':=sy m3;have o0':=sy o0;have o1':=sy o1;have o2':=sy o2;have o3':=sy o3;have q6':=sy q6;have q0':=sy q0;have q1':=sy q1;have q2':=sy q2;have q3':=sy q3
 have hmp:=zdy pth r.seen hn
 (simp (maxSteps:=2000000) (disch:=first|omega|assumption) [zz,-List.reduceReplicate,m1,m2,m3,m1',m2',m3',o0,o1,o2,o3,o0',o1',o2',o3',q6,q0,q1,q2,q3,q6',q0',q1',q2',q3',hmp])
 obtain⟨H1,hH1⟩:∃H1:q8,H1=(b7,JU Q)::(b6,zF w)::(b4,zA R)::(Q,.map 9 4 (QY (r.seen++[pth])))::(R,qW p.ta (zS r.env) r.buf p.K r.asks r.waits r.over)::(p.K,.map 9 57 (knE r.known))::(p.TA++p.S):=⟨_,rfl⟩
 refine jW.ofK [0,1,2,3,4,5] [0,1] [b4] (by kernel_rfl) ?_
 (simp (maxSteps:=2000000) (disch:=first|omega|assumption) [zz,-List.reduceReplicate,o0,o0',q0,q0',q6,q6'])
 (repeat with_reducible refine om ?_)
 obtain⟨tv,htv⟩:∃tv:AV,tv=.fn 169 [.ptr b4 .ptr [],.ptr b6 .str [],.ptr b7 YR []]:=⟨_,rfl⟩
 refine qE (R:=fun y H'=>∃br bt,y=.av .func (.fn 168 [.ptr br .ptr [],.ptr bt .func []])∧H'=[(bt,.var .func tv),(br,zA R)]) [] H1 (by rw[hH1];simp[JU,zF,zA]) rfl (by simp[qQ]) (by simp) ?_ ?_
 ·have:=zdh R tv (by rw[htv];rfl) (by rw[htv];rfl)
  rw[←htv]
  simpa[TV.er,AV.er,htv]using this
 rintro y H' ⟨br,bt,rfl,rfl⟩ hnd3
 refine⟨_,HSub.refl _,?_⟩
 rw[hH1]at hnd3 ⊢
 simp only[q8.keys,List.map_append,List.map_cons,List.map_nil,List.cons_append,List.nil_append,List.nodup_cons,List.mem_cons,not_or]at hnd3
 obtain⟨⟨_,_,_,g1,_⟩,⟨_,_,g2,_⟩,_⟩:=hnd3
 have g1':=sy g1;have g2':=sy g2
 (simp (maxSteps:=2000000) (disch:=first|omega|assumption) [zz,-List.reduceReplicate,XC,g1,g1',g2,g2',o0,o0',q0,q0',q6,q6',JU,zF,zA])
 (repeat with_reducible refine om ?_)
 obtain⟨p2,hp2e⟩:∃p2:zY,p2={ p with QH:=[(Q,.map 9 4 (QY (r.seen++[pth])))],S:=(bt,yE tv)::(br,zA R)::(b7,JU Q)::(b6,zF w)::(b4,zA R)::p.S }:=⟨_,rfl⟩
 have hp2:p2.OK R r1:=by
  rw[hp2e,hr1]
  refine⟨hp.todo,.inr ⟨Q,hq,rfl⟩,?_,?_⟩
  ·simp only[q8.er_cons,hp.box,zF,yE,zA,JU,HObj.er_var,AV.erk,htv];rfl
  ·exact hp.tds.mono fun z hz=>by simp[hz]
 have hq2:p2.q=some Q:=by rw[hp2e];exact hq
 have hco:UX R p2.q p2.S (.there (.scan w)) (.fn 168 [.ptr br .ptr [],.ptr bt .func []]):=by
  rw[hp2e]
  exact⟨br,bt,tv,rfl,by simp,by simp,Q,b4,b6,b7,hq,htv,by simp,by simp,by simp⟩
 have hask:=zey R pth (.there (.scan w)) _ hp2 hco hb1
 have her2:=(show z6 R r1 (p2.core R r1) from⟨p2,hp2,rfl⟩).er
 refine qE (R:=fun y H'=>y=.tup []∧z6 R (Q6 pth (.there (.scan w)) r1) H') (p2.core R r1) [] ?_ rfl (by simp[qQ]) (by simp) ?_ ?_
 ·rw[hp2e,hr1]
  refine List.perm_iff_count.2 fun a=>?_
  simp only[zY.core,List.count_append,List.count_cons,List.count_nil,zF,yE,zA,JU]
  omega
 ·rw[her2]
  simpa[TV.er,AV.er]using hask
 rintro y H' ⟨rfl,hh⟩ _
 refine⟨H',by simpa using HSub.refl _,?_⟩
 have hhe:=hh.er
 (simp (maxSteps:=2000000) (disch:=first|omega|assumption) [zz,-List.reduceReplicate,Tryz.f116,hhe])
 exact⟨H',HSub.refl _,hh⟩
abbrev zoZ:Cfg:=⟨fun _=>false,fun n=>n==10⟩
theorem zmN (R bt br bp:Nat) (k:CoV) (kv:AV) (pth:Txt) {r:RunV} {p:zY} (hp:p.OK R r) (hbt:(bt,yE kv)∈p.S) (hbr:(br,zA R)∈p.S) (hbp:(bp,zF pth)∈p.S) (hk:UX R p.q p.S k kv) (hb:RB r) :
  q7 Tryz.prog 167 [.av .ptr (.ptr bt .func []),.av .ptr (.ptr br .ptr []),.av .ptr (.ptr bp .str [])] (p.core R r) fun y H'=>y=.tup []∧z6 R (coR k ((zQ r.known pth).getD kn0) r) H':=by
 have hH:z6 R r (p.core R r):=⟨p,hp,rfl⟩
 have her:=hH.er
 obtain⟨hk1,hk2⟩:=hk.er
 have hxl:((zQ r.known pth).getD kn0).is=true→((zQ r.known pth).getD kn0).data.length≤1000000:=by
  cases hf:zQ r.known pth with
  | none=>simp[kn0]
  | some x=>exact hb.dat x (dY hf)
 have hco:=zn6 R ((zQ r.known pth).getD kn0) hp hk hb.buf hxl hb.todo
 have hmf:=X6 pth r.known
 refine q7.nodup fun hnd=>?_
 obtain⟨n1,n2⟩:=zY.KR hnd
 have mk:∀ {x},x∈p.S→x∈p.core R r:=fun h=>zY.memS h
 have e1:bt≠br:=Y4 hnd (mk hbt) (mk hbr) (by simp[yE,zA])
 have e2:bt≠bp:=Y4 hnd (mk hbt) (mk hbp) (by simp[yE,zF])
 have e3:br≠bp:=Y4 hnd (mk hbr) (mk hbp) (by simp[zA,zF])
 obtain⟨rest,hpm⟩:=znf hbt hbr hbp e1 e2 e3
 have hpm2:(p.core R r).Perm ((bt,yE kv)::(br,zA R)::(bp,zF pth)::(R,qW p.ta (zS r.env) r.buf p.K r.asks r.waits r.over)::(p.K,.map 9 57 (knE r.known))::(p.TA++(p.QH++rest))):=by
  refine List.perm_iff_count.2 fun a=>?_
  have:=hpm.count_eq a
  simp only[zY.core,List.count_append,List.count_cons]at this ⊢
  omega
 have hnd2:=((hpm2.map Prod.fst).nodup_iff).1 hnd
 simp only[List.map_cons,List.nodup_cons,List.mem_cons,not_or]at hnd2
 obtain⟨⟨g1,g2,g3,g4,_⟩,⟨g5,g6,g7,_⟩,⟨g8,g9,_⟩,⟨g10,_⟩,_⟩:=hnd2
 have sy:∀ {a b:Nat},¬a=b→¬b=a:=fun h e=>h e.symm
 have g1':=sy g1;have g2':=sy g2;have g3':=sy g3;have g4':=sy g4;have g5':=sy g5;have g6':=sy g6;have g7':=sy g7;have g8':=sy g8;have g9':=sy g9;have g10':=sy g10
 have hpm3:=hpm2.symm
 refine q7.sub (R:=fun y H'=>y=.tup []∧∃H2,Ab.HSub H2 H'∧z6 R (coR k ((zQ r.known pth).getD kn0) r) H2) ?_ fun y H' ⟨h1,H2,h2,h3⟩ _=>⟨H2,h2,h1,h3⟩
 refine q7.perm hpm2 ?_
 have fin:∀y H',(y=TV.tup []∧z6 R (coR k ((zQ r.known pth).getD kn0) r) H')→True:=fun _ _ _=>trivial
 cases hf:zQ r.known pth with
 | none =>
  rw[hf]at hmf hco
  rw[Option.map_none]at hmf
  refine q7.of_vc laid mixed Tryz.func167 rfl zoZ (by kernel_rfl) (by simp[Tryz.ntmps167]) fun imm0 w0=>?_
  (simp (maxSteps:=2000000) (disch:=first|omega|assumption) [zz,-List.reduceReplicate,yE,zA,zF,qW,hmf,g1,g2,g3,g4,g5,g6,g7,g8,g9,g10,g1',g2',g3',g4',g5',g6',g7',g8',g9',g10'])
  (repeat with_reducible refine om ?_)
  refine ZG (R:=fun y H'=>y=.tup []∧z6 R (coR k kn0 r) H') (p.core R r) [] (by simpa[yE,zA,zF,qW]using hpm3) her (by simp[qQ]) (by simpa[kn0,zH]using hco) ?_
  rintro y H' ⟨rfl,hh⟩ _
  refine⟨H',by simpa using HSub.refl _,?_⟩
  have hhe:=hh.er
  (simp (maxSteps:=2000000) (disch:=first|omega|assumption) [zz,-List.reduceReplicate,Tryz.f167,hhe])
  exact⟨H',HSub.refl _,hh⟩
 | some x =>
  rw[hf]at hmf hco
  rw[Option.map_some]at hmf
  refine q7.of_vc laid mixed Tryz.func167 rfl zoZ (by kernel_rfl) (by simp[Tryz.ntmps167]) fun imm0 w0=>?_
  (simp (maxSteps:=2000000) (disch:=first|omega|assumption) [zz,-List.reduceReplicate,yE,zA,zF,qW,hmf,g1,g2,g3,g4,g5,g6,g7,g8,g9,g10,g1',g2',g3',g4',g5',g6',g7',g8',g9',g10'])
  (repeat with_reducible refine om ?_)
  refine ZG (R:=fun y H'=>y=.tup []∧z6 R (coR k x r) H') (p.core R r) [] (by simpa[yE,zA,zF,qW]using hpm3) her (by simp[qQ]) (by simpa using hco) ?_
  rintro y H' ⟨rfl,hh⟩ _
  refine⟨H',by simpa using HSub.refl _,?_⟩
  have hhe:=hh.er
  (simp (maxSteps:=2000000) (disch:=first|omega|assumption) [zz,-List.reduceReplicate,Tryz.f167,hhe])
  exact⟨H',HSub.refl _,hh⟩
end Go.Proofs.YtidhkfcjichiiaaGreatDoor
end
