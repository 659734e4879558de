/- A tool ahead of its first step. No condition beyond each theorem's own. -/
import Derived.Test.YtidhkfcjichiiaaGreatDoorGB4ToKT3
import Derived.Test.YtidhkfcjichiiaaGreatDoorKTfToKTg
set_option linter.unusedSimpArgs false
set_option linter.unusedVariables false
set_option linter.unusedSectionVars false
set_option maxRecDepth 100000
/-! A tool ahead of its first step. -/
namespace Go.Proofs.YtidhkfcjichiiaaGreatDoor
open Go Go.Ab
open Classical
variable [Sel] [SelPow] [SelMax]

theorem cO (l:List (Txt × Txt)) (hl:l.length≤1000000):PC Tryz.prog 45 [.av (.slice 103) (zS l)] (.av (.slice 103) (zS l)):=by
 have hby:Tryz.prog.bytesOf 103=32:=by kernel_rfl
 refine PC.of <| q7.of_vc laid mixed Tryz.func45 rfl cf0 (by kernel_rfl) (by simp[Tryz.ntmps45]) fun imm0 w0=>?_
 (simp (maxSteps:=2000000) (disch:=first|omega|assumption) [zz,-List.reduceReplicate,zS])
 refine⟨?_,?_⟩
 ·intro h
  subst h
  (simp (maxSteps:=2000000) (disch:=first|omega|assumption) [zz,-List.reduceReplicate,Tryz.f45])
 ·(simp (maxSteps:=2000000) (disch:=first|omega|assumption) [zz,-List.reduceReplicate,wB,hby,Tryz.f45])
  exact⟨by omega,by omega,by simp[AV.ers_eq,Function.comp_def]⟩
theorem zcF {H:q8} {b:Nat} {o:HObj} (hn:H.keys.Nodup) (h:(b,o)∈H):jM H b=some o:=by
 induction H with
 | nil=>cases h
 | cons x r ih =>
  obtain⟨b',o'⟩:=x
  have hn':(b'::q8.keys r).Nodup:=hn
  rw[List.nodup_cons]at hn'
  rcases List.mem_cons.1 h with e|e
  ·cases e;simp[jM]
  ·have hne:¬b'=b:=fun e'=>hn'.1 (e'▸List.mem_map.2 ⟨_,e,rfl⟩)
   simp only[jM,hne,if_false]
   exact ih hn'.2 e
def W7 (env:List (Txt × Txt)) (cs:List CmdV):RunV:=⟨(cs.reverse).map .cmd,env,[],[],[],false,do0,[]⟩
theorem v8 (l:List (Txt × Txt)):(zS l).er=zS l:=by simp[zS,AV.er,AV.ers_eq,Z7,Function.comp_def,AV.ers]
theorem xG (c:CmdV):(zK c).erk=zK c:=kH _ (zaV c)
def dS (t:Txt) (env:List (Txt × Txt)) (y:TV) (H':q8):Prop:=match j7 t with
 | .error (e,_)=>y=.tup [(.ptr,.nilptr),(.int .i64,.i .i64 e)]∧H'=[]
 | .ok cs=>∃R,y=.tup [(.ptr,.ptr R kQ []),(.int .i64,.i .i64 0)]∧z6 R (W7 env cs) H'
theorem Z8 {t:Txt} {e:Int} {n:Nat} (h:j7 t=.error (e,n)):e=6∨e=3:=by
 unfold j7 at h
 split at h
 ·cases h;exact .inl rfl
 ·split at h
  ·cases h
  ·cases h;exact .inr rfl
theorem y8 {t:Txt} {cs:List CmdV} (h:j7 t=.ok cs):cs.length≤400:=by
 unfold j7 at h
 split at h
 ·cases h
 ·rename_i hn
  split at h
  ·rename_i l hl
   cases h
   have:=gH _ _ _ hl
   omega
  ·cases h
abbrev zgP:Cfg:=⟨fun n=>n==9||n==11||n==25,fun n=>n==24||n==1000007||n==2000037||n==39⟩
set_option maxHeartbeats 16000000 in
theorem zig (t:Txt) (ht:t.length≤1000000) (env:List (Txt × Txt)) (hel:env.length≤1000000) :
  q7 Tryz.prog 17 [.av .str (.s t),.av (.slice 103) (zS env)] [] (dS t env):=by
 have hpc:=zcp t ht
 have hcl:=cO env hel
 refine q7.sub (R:=fun y H'=>∃H2,Ab.HSub H2 H'∧dS t env y H2) ?_ fun y H' ⟨H2,h2,h3⟩ _=>⟨H2,h2,h3⟩
 unfold dS
 unfold zbA at hpc
 have hce:=zV env
 cases hcv:j7 t with
 | error en =>
  obtain⟨e,n⟩:=en
  rw[hcv]at hpc
  have he:¬e=0:=by rcases Z8 hcv with h|h<;>omega
  refine q7.of_vc laid mixed Tryz.func17 rfl zgP (by kernel_rfl) (by simp[Tryz.ntmps17]) fun imm0 w0=>?_
  (simp (maxSteps:=2000000) (disch:=first|omega|assumption) [zz,-List.reduceReplicate])
  refine qL hpc rfl rfl (by simp) (by simp[qS,TV.er,AV.er]) ?_
  (simp (maxSteps:=2000000) (disch:=first|omega|assumption) [zz,-List.reduceReplicate,he,Tryz.f17])
  exact HSub.refl _
 | ok ls =>
 rw[hcv]at hpc
 have hll:=y8 hcv
 simp only at hpc ⊢
 refine q7.of_vc laid mixed Tryz.func17 rfl zgP (by kernel_rfl) (by simp[Tryz.ntmps17]) fun imm0 w0=>?_
 (simp (maxSteps:=2000000) (disch:=first|omega|assumption) [zz,-List.reduceReplicate])
 refine qL hpc rfl rfl (by simp) (by simp[qS,TV.er,AV.er]) ?_
 (simp (maxSteps:=2000000) (disch:=first|omega|assumption) [zz,-List.reduceReplicate])
 refine qL hcl rfl rfl (by simp) (by simp[qS,TV.er,v8]) ?_
 (simp (maxSteps:=2000000) (disch:=first|omega|assumption) [zz,-List.reduceReplicate,zS])
 intro K R n1 br n2 n3
 obtain⟨r,hr⟩:∃r:RunV,r=⟨[],env,[],[],[],false,do0,[]⟩:=⟨_,rfl⟩
 obtain⟨p,hpe⟩:∃p:zY,p=⟨K,none,[],[],[(br,zA R)],[],.nsl⟩:=⟨_,rfl⟩
 have hp:p.OK R r:=by
  rw[hpe,hr]
  exact⟨.inl ⟨rfl,rfl,rfl⟩,.inl ⟨rfl,rfl⟩,rfl,.nil⟩
 have hbr:(br,zA R)∈p.S:=by rw[hpe];simp
 have htd:r.todo.length≤1000000000:=by rw[hr];simp
 have hcore:p.core R r=(R,qW .nsl (zS env) [] K [] false do0)::(K,.map 9 57 [])::[(br,zA R)]:=by
  rw[hpe,hr];simp[zY.core,knE]
 refine qE (R:=fun r' H'=>∃c,r'=.av .func (.fn 111 [.ptr c zf3 []])∧H'=[(c,bcO ls)]) [] (p.core R r) ?_ rfl (by simp[qQ]) (by simp) ?_ ?_
 ·rw[hcore,List.nil_append]
  refine List.perm_iff_count.2 fun a=>?_
  simp only[List.count_cons,List.count_nil,kQ,qW,zS,jG,do0,zA]
  omega
 ·simpa[TV.er,AV.er]using zhy ls
 rintro r' H' ⟨c,rfl,rfl⟩ hnd2
 refine⟨(c,bcO ls)::p.core R r,HSub.refl _,?_⟩
 (simp (maxSteps:=2000000) (disch:=first|omega|assumption) [zz,-List.reduceReplicate])
 refine AT.absE (fun E=>E 9=.av .ptr (.ptr br .ptr [])∧E 27=.av .func (.fn 111 [.ptr c zf3 []])) (by simp) ?_
 rintro E ⟨hE1,hE9⟩
 refine AT.range (gf:=111) rfl (by simpa using hE9) rfl (by simp) ?_
 intro y D rr i0 w1 hy hrec hready hpend hpar has hbo
 obtain⟨G,hG⟩:∃G:Nat→q8→Prop,G=fun k H=>∃p':zY,p'.OK R (wT r ((ls.reverse.take k).map TdV.cmd))∧(br,zA R)∈p'.S∧H=(y,.lrec rr i0 w1)::p'.core R (wT r ((ls.reverse.take k).map TdV.cmd)):=⟨_,rfl⟩
 refine⟨(c,bcO ls)::(y,.lrec rr i0 w1)::p.core R r,[],fun t H'=>t=.tup []∧∃H1,G ls.length H1∧H'=(c,bcO ls)::H1,?_,?_,?_⟩
 ·rw[List.append_nil]
  exact List.Perm.swap _ _ _
 ·have her:=(show z6 R r (p.core R r) from⟨p,hp,rfl⟩).er
  have he:q8.er ((c,bcO ls)::(y,.lrec rr i0 w1)::p.core R r)=(c,bcO ls)::(y,.lrec rr i0 w1)::p.core R r:=by
   rw[q8.er_cons,q8.er_cons,her,zj0];rfl
  rw[he]
  refine zgF (G:=G) y c ls (by omega) ?_ ?_ _ ?_
  ·rw[hG]
   rintro k H ⟨p',hp',_,rfl⟩
   rw[q8.er_cons,(show z6 R _ (p'.core R _) from⟨p',hp',rfl⟩).er];rfl
  ·rw[hG]
   rintro k hk H ⟨p',hp',hbr',rfl⟩
   obtain⟨x,hx⟩:∃x,x=ls[ls.length-1-k]'(by omega):=⟨_,rfl⟩
   obtain⟨r1,hr1⟩:∃r1,r1=wT r ((ls.reverse.take k).map TdV.cmd):=⟨_,rfl⟩
   have hnx:wT r ((ls.reverse.take (k+1)).map TdV.cmd)=wT r1 [.cmd x]:=by
    rw[List.take_succ_eq_append_getElem (by simpa using hk),List.getElem_reverse,hr1,hx]
    simp[wT]
   have hr1t:r1.todo.length≤2000000000:=by
    rw[hr1]
    simp[wT]
    omega
   rw[←hr1]at hp' ⊢
   rw[←hx]
   refine zeS (R:=fun rrr H'=>rrr=.av .bool (.b true)∧∃p'':zY,p''.OK R (wT r1 [.cmd x])∧(br,zA R)∈p''.S∧Ab.HSub ((y,.lrec rr i0 w1)::p''.core R (wT r1 [.cmd x])) H') ?_ (fun rrr H' ⟨e1,p'',e2,e4,e7⟩ _=>⟨_,e7,e1,p'',by rw[hnx];exact e2,e4,by rw[hnx]⟩)
   refine ze0 fun hnd=>?_
   obtain⟨S2,hS2⟩:=GZ hbr'
   obtain⟨rest,hrest⟩:∃rest:q8,rest=(p'.K,.map 9 57 (knE r1.known))::(p'.QH++S2):=⟨_,rfl⟩
   have hp1:((y,HObj.lrec rr i0 w1)::p'.core R r1).Perm ((y,.lrec rr i0 w1)::(R,qW p'.ta (zS r1.env) r1.buf p'.K r1.asks r1.waits r1.over)::(br,zA R)::(p'.TA++rest)):=by
    refine List.perm_iff_count.2 fun a=>?_
    have:=hS2.count_eq a
    rw[hrest]
    simp only[zY.core,List.count_append,List.count_cons]at this ⊢
    omega
   have hnd1:(q8.keys ((y,HObj.lrec rr i0 w1)::(R,qW p'.ta (zS r1.env) r1.buf p'.K r1.asks r1.waits r1.over)::(br,zA R)::(p'.TA++rest))).Nodup:=by
    have h1:(((y,HObj.lrec rr i0 w1)::p'.core R r1).map Prod.fst).Nodup:=hnd
    exact(hp1.map Prod.fst).nodup_iff.1 h1
   have hrer:rest.er=rest:=by
    have h1:=VD hp1 (by rw[q8.er_cons,(show z6 R _ (p'.core R _) from⟨p',hp',rfl⟩).er];rfl)
    exact WW.2 fun z hz=>WW.1 h1 z (by simp[hz])
   refine zfP hp1 ?_
   refine YC.of_round (l:=y) hrec hready (by rw[hpar];rfl) (by rw[hpar];simp) (fun imm wd=>?_)
   rw[has,hbo,hpar]
   have hrl:∀(pp:Array Nat) (a b:Code),pp=rr.params→a=rr.assign→b=rr.body→({ state:=.ready,pending:=none,fn:=rr.fn,tmps:=rr.tmps,params:=pp,assign:=a,body:=b,defers:=rr.defers }:Loop)=rr:=by
    rintro _ _ _ rfl rfl rfl;exact u7 hready hpend
   have her:∀r',(HObj.lrec r' i0 w1).er=HObj.lrec r' i0 w1:=fun _=>rfl
   have fin:∀(b6:Nat) (ta':AV) (TA' H':q8),zaQ (p'.fs++[.fn 60 [.ptr br .ptr [],.ptr b6 QE []]]) ta' TA'→
     Ab.HSub ((b6,kJ x)::(y,.lrec rr i0 w1)::(R,qW ta' (zS r1.env) r1.buf p'.K r1.asks r1.waits r1.over)::(br,zA R)::(TA'++rest)) H'→
     ∃p'':zY,p''.OK R (wT r1 [.cmd x])∧(br,zA R)∈p''.S∧Ab.HSub ((y,.lrec rr i0 w1)::p''.core R (wT r1 [.cmd x])) H':=by
    intro b6 ta' TA' H' hT hsub
    refine⟨{ p' with TA:=TA',S:=(b6,kJ x)::p'.S,fs:=p'.fs++[.fn 60 [.ptr br .ptr [],.ptr b6 QE []]],ta:=ta' },⟨hT,hp'.seen,?_,?_⟩,List.mem_cons_of_mem _ hbr',?_⟩
    ·show q8.er ((b6,kJ x)::p'.S)=_
     rw[q8.er_cons,hp'.box]
     simp[kJ,HObj.er_var,xG]
    ·exact(hp'.tds.mono fun z hz=>List.mem_cons_of_mem _ hz).one ⟨br,b6,rfl,List.mem_cons_of_mem _ hbr',List.mem_cons_self⟩
    ·refine YX (HSub.of_perm ?_) hsub
     refine List.perm_iff_count.2 fun a=>?_
     have:=hS2.count_eq a
     rw[hrest]
     simp only[zY.core,wT,List.count_append,List.count_cons]at this ⊢
     omega
   rcases hp'.todo with⟨hfs,hta,hTA⟩|⟨T,cap,j,hj,hta,hcap,hTA⟩
   ·rw[hTA]at hnd1 ⊢
    rw[hta]
    rw[hfs]at fin
    simp at hnd1
    obtain⟨⟨n1,n2,n3⟩,⟨n4,n5⟩,n6,n7⟩:=hnd1
    have n1':¬R=y:=fun e=>n1 e.symm
    have n2':¬br=y:=fun e=>n2 e.symm
    have n4':¬br=R:=fun e=>n4 e.symm
    refine qM (cf:=zgP) laid mixed _ _ _ (by kernel_rfl) ?_
    (simp (maxSteps:=2000000) (disch:=first|omega|assumption) [zz,-List.reduceReplicate,QW,yL,vS,hE1])
    intro b6 m1 m2 m3 m4
    have m1':¬y=b6:=fun e=>m1 e.symm
    have m2':¬R=b6:=fun e=>m2 e.symm
    have m3':¬br=b6:=fun e=>m3 e.symm
    refine⟨by assumption,?_⟩
    refine qM (cf:=zgP) laid mixed _ _ _ (by kernel_rfl) ?_
    (simp (maxSteps:=2000000) (disch:=first|omega|assumption) [zz,-List.reduceReplicate])
    refine jW.ofK [0,1,2,3,4,5,6,7,8,9,10] [0] [br] (by kernel_rfl) ?_
    (simp (maxSteps:=2000000) (disch:=first|omega|assumption) [zz,-List.reduceReplicate,hE1,n1,n2,n4,n1',n2',n4',m1,m2,m3,m1',m2',m3',zA,qW])
    (repeat with_reducible refine om ?_)
    intro b cap c1 c2 c3 c4 c5 c6
    have c1':¬b6=b:=fun e=>c1 e.symm
    have c2':¬y=b:=fun e=>c2 e.symm
    have c3':¬R=b:=fun e=>c3 e.symm
    have c4':¬br=b:=fun e=>c4 e.symm
    refine⟨c4,?_⟩
    (repeat with_reducible refine om ?_)
    (simp (maxSteps:=2000000) (disch:=first|omega|assumption) [zz,-List.reduceReplicate,n1,n2,n4,n1',n2',n4',m1,m2,m3,m1',m2',m3',c1,c2,c3,c4,c1',c2',c3',c4'])
    (simp (maxSteps:=2000000) (disch:=first|omega|assumption) [zz,-List.reduceReplicate,WR,uV,hrer,zV,Q5,n1,n2,n4,n1',n2',n4',m1,m2,m3,m1',m2',m3',c1,c2,c3,c4,c1',c2',c3',c4'])
    rw[her,hrl _ _ _ hpar.symm has.symm hbo.symm,show AV.erks (List.replicate (cap-1) AV.nilfn)=_ from JK.rep rfl _]
    refine fin b6 (.msl b 1 0 1 cap) [(b,.var (.arr cap 1) (.agg (_::List.replicate (cap-1) .nilfn)))] _ (.inr ⟨b,cap,List.replicate (cap-1) .nilfn,JK.rep rfl _,rfl,by simp;omega,rfl⟩) (HSub.of_perm ?_)
    refine List.perm_iff_count.2 fun a=>?_
    simp only[List.count_append,List.count_cons,List.count_nil,QE,xG,kJ,zA,qW]
    omega
   ·rw[hTA]at hnd1 ⊢
    rw[hta]
    simp at hnd1
    obtain⟨⟨n1,n2,n8,n3⟩,⟨n4,n9,n5⟩,⟨n10,n6⟩,n11,n7⟩:=hnd1
    have n1':¬R=y:=fun e=>n1 e.symm
    have n2':¬br=y:=fun e=>n2 e.symm
    have n4':¬br=R:=fun e=>n4 e.symm
    have n8':¬T=y:=fun e=>n8 e.symm
    have n9':¬T=R:=fun e=>n9 e.symm
    have n10':¬T=br:=fun e=>n10 e.symm
    have hfl:=hp'.tds.len
    have hcapn:(0:Nat)+cap=cap:=by omega
    obtain⟨fs,hfs⟩:∃fs,fs=p'.fs:=⟨_,rfl⟩
    rw[←hfs]at fin hfl hcap ⊢
    have hjfs:=hp'.tds.jk
    rw[←hfs]at hjfs
    refine qM (cf:=zgP) laid mixed _ _ _ (by kernel_rfl) ?_
    (simp (maxSteps:=2000000) (disch:=first|omega|assumption) [zz,-List.reduceReplicate,QW,yL,vS,hE1])
    intro b6 m1 m2 m3 m5 m4
    have m1':¬y=b6:=fun e=>m1 e.symm
    have m2':¬R=b6:=fun e=>m2 e.symm
    have m3':¬br=b6:=fun e=>m3 e.symm
    have m5':¬T=b6:=fun e=>m5 e.symm
    refine⟨by assumption,?_⟩
    refine qM (cf:=zgP) laid mixed _ _ _ (by kernel_rfl) ?_
    (simp (maxSteps:=2000000) (disch:=first|omega|assumption) [zz,-List.reduceReplicate])
    refine jW.ofK [0,1,2,3,4,5,6,7,8,9,10] [0] [br] (by kernel_rfl) ?_
    (simp (maxSteps:=2000000) (disch:=first|omega|assumption) [zz,-List.reduceReplicate,hE1,n1,n2,n4,n1',n2',n4',n8,n9,n10,n8',n9',n10',m1,m2,m3,m1',m2',m3',m5,m5',zA,qW])
    (repeat with_reducible refine om ?_)
    refine⟨fun hroom=>?_,fun hgrow=>?_⟩
    ·(repeat with_reducible refine om ?_)
     (simp (maxSteps:=2000000) (disch:=first|omega|assumption) [zz,-List.reduceReplicate,WR,uV,hrer,zV,Q5,n1,n2,n4,n1',n2',n4',n8,n9,n10,n8',n9',n10',m1,m2,m3,m1',m2',m3',m5,m5'])
     rw[her,hrl _ _ _ hpar.symm has.symm hbo.symm]
     rw[show AV.erks (fs++AV.fn 60 [.ptr br .ptr [],.ptr b6 QE []]::j.tail)=_ from hjfs.app (JK.cons rfl hj.tail),List.append_cons]
     refine fin b6 (.msl T 1 0 (fs.length+1) cap) [(T,.var (.arr cap 1) (.agg (fs++[_]++j.tail)))] _ (.inr ⟨T,cap,j.tail,hj.tail,by simp,by simp;omega,rfl⟩) (HSub.of_perm ?_)
     refine List.perm_iff_count.2 fun a=>?_
     simp only[List.count_append,List.count_cons,List.count_nil,QE,xG,kJ,zA,qW]
     omega
    ·intro b cap2 c1 c2 c3 c4 c7 c5 c6
     have c1':¬b6=b:=fun e=>c1 e.symm
     have c2':¬y=b:=fun e=>c2 e.symm
     have c3':¬R=b:=fun e=>c3 e.symm
     have c4':¬br=b:=fun e=>c4 e.symm
     have c7':¬T=b:=fun e=>c7 e.symm
     refine⟨c4,?_⟩
     (repeat with_reducible refine om ?_)
     (simp (maxSteps:=2000000) (disch:=first|omega|assumption) [zz,-List.reduceReplicate,n1,n2,n4,n1',n2',n4',n8,n9,n10,n8',n9',n10',m1,m2,m3,m1',m2',m3',m5,m5',c1,c2,c3,c4,c7,c1',c2',c3',c4',c7'])
     (simp (maxSteps:=2000000) (disch:=first|omega|assumption) [zz,-List.reduceReplicate,WR,uV,hrer,zV,Q5,n1,n2,n4,n1',n2',n4',n8,n9,n10,n8',n9',n10',m1,m2,m3,m1',m2',m3',m5,m5',c1,c2,c3,c4,c7,c1',c2',c3',c4',c7'])
     rw[her,hrl _ _ _ hpar.symm has.symm hbo.symm]
     rw[show AV.erks (fs++AV.fn 60 [.ptr br .ptr [],.ptr b6 QE []]::List.replicate (cap2-(fs.length+1)) AV.nilfn)=_ from hjfs.app (JK.cons rfl (JK.rep rfl _)),List.append_cons]
     refine fin b6 (.msl b 1 0 (fs.length+1) cap2) [(b,.var (.arr cap2 1) (.agg (fs++[_]++List.replicate (cap2-(fs.length+1)) .nilfn)))] _ (.inr ⟨b,cap2,_,JK.rep rfl _,by simp,by simp;omega,rfl⟩) ⟨(T,.var (.arr cap 1) (.agg (AV.erks (fs++j))))::_,?_,(List.Sublist.refl _).cons _⟩
     refine List.perm_iff_count.2 fun a=>?_
     simp only[List.count_append,List.count_cons,List.count_nil,QE,xG,kJ,zA,qW]
     omega
  ·rw[hG]
   exact⟨p,by simpa[wT]using hp,hbr,by simp[wT]⟩
 ·rintro t H' ⟨rfl,H1,hg,rfl⟩ hnd3
  rw[hG]at hg
  obtain⟨p',hp',hbr',rfl⟩:=hg
  refine⟨rr,(c,bcO ls)::p'.core R _,HSub.of_perm (by rw[List.append_nil];exact List.Perm.swap _ _ _),by rw[hready];simp,?_⟩
  rw[hpend]
  have her:=(show z6 R _ (p'.core R _) from⟨p',hp',rfl⟩).er
  have hfin:wT r ((ls.reverse.take ls.length).map TdV.cmd)=W7 env ls:=by
   rw[List.take_of_length_le (by simp)]
   simp[W7,wT,hr]
  rw[hfin]at her hp'
  rw[hfin]
  have hnd4:(q8.keys ((c,bcO ls)::(y,HObj.lrec rr i0 w1)::p'.core R (W7 env ls))).Nodup:=by
   have:=hnd3
   rw[hfin,List.append_nil]at this
   exact this
  have h1:(c::y::(p'.core R (W7 env ls)).keys).Nodup:=hnd4
  rw[List.nodup_cons,List.nodup_cons]at h1
  have hmb:(br,zA R)∈p'.core R (W7 env ls):=zY.memS hbr'
  have hcb:¬c=br:=fun e=>h1.1 (List.mem_cons_of_mem _ (e▸List.mem_map.2 ⟨_,hmb,rfl⟩))
  have hgb:jM (p'.core R (W7 env ls)) br=some (zA R):=zcF h1.2.2 hmb
  (simp (maxSteps:=2000000) (disch:=first|omega|assumption) [zz,-List.reduceReplicate,PR,hE1,hcb,hgb,zA,Tryz.f17,her])
  exact⟨p'.core R (W7 env ls),HSub.of_sub ((List.Sublist.refl _).cons _),p',hp',rfl⟩
end Go.Proofs.YtidhkfcjichiiaaGreatDoor
