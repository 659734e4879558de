/- A tool that goes on: a file's lines are to be scanned. No condition beyond each theorem's own. -/
import Derived.Test.YtcgpcfcbienapaaGreatDoorP18ToKBs
set_option linter.unusedSimpArgs false
set_option linter.unusedVariables false
set_option linter.unusedSectionVars false
section
set_option maxRecDepth 100000
namespace Go.Proofs.YtcgpcfcbienapaaGreatDoor
open Go Go.Ab
open Classical
variable [Sel] [SelPow] [SelMax]
theorem PG (l:Txt) (hl:l.length≤1000000):PC Tryz.prog 94 [.av .str (.s l)] (.av (.slice 9) (.sl .no (strs (z7 l)))) :=
 D9.freeze laid (by simp) (VP l hl)
theorem YX {a b c:q8} (h1:Ab.HSub a b) (h2:Ab.HSub b c):Ab.HSub a c:=by
 obtain⟨l,p1,s1⟩:=h1
 obtain⟨m,p2,s2⟩:=h2
 obtain⟨e,he⟩:=s2.exists_perm_append
 exact⟨l++e,p2.trans (he.trans (p1.append_right e)),s1.trans (List.sublist_append_left _ _)⟩
theorem Q5 (d:DoV):(jG d).erk=jG d:=rfl
theorem JK.cons {v:AV} {j:List AV} (hv:v.erk=v) (h:JK j):JK (v::j):=by
 unfold JK at *;rw[AV.erks_eq]at *;rw[List.map_cons,h,hv]
theorem JK.tail {j:List AV} (h:JK j):JK j.tail:=by rw[←List.drop_one];exact h.drop 1
def wT (r:zCT) (l:List TdV):zCT:={ r with todo:=r.todo++l }
theorem yN.one {R:Nat} {q:Option Nat} {S:q8} {ts:List TdV} {fs:List AV} {t:TdV} {v:AV} (h:yN R q S ts fs) (h1:zDS R q S t v):yN R q S (ts++[t]) (fs++[v]):=h.app (.cons h1 .nil)
abbrev zi9:Cfg:=⟨fun n=>n==6,fun n=>n==1000002||n==2000019||n==21⟩
set_option maxHeartbeats 16000000 in
theorem ziy (R Q br bw bs:Nat) (w d:Txt) {r:zCT} {p:zY} (hp:p.OK R r) (hq:p.q=some Q) (hbr:(br,zA R)∈p.S) (hbw:(bw,zF w)∈p.S) (hbs:(bs,JU Q)∈p.S) (hd:d.length≤1000000) (htd:r.todo.length≤1000000000) :
  q7 Tryz.prog 136 [.av .str (.s d),.av .ptr (.ptr br .ptr []),.av .ptr (.ptr bw .str []),.av .ptr (.ptr bs YR [])] (p.core R r) fun y H'=>y=.tup []∧z6 R (thR (.scan w) d r) H':=by
 have hll:=ZE d
 obtain⟨ls,hls⟩:∃ls,ls=z7 d:=⟨_,rfl⟩
 have hpc:=PG d hd
 rw[←hls]at hll hpc
 refine q7.sub (R:=fun y H'=>y=.tup []∧∃H2,Ab.HSub H2 H'∧z6 R (thR (.scan w) d r) H2) ?_ fun y H' ⟨h1,H2,h2,h3⟩ _=>⟨H2,h2,h1,h3⟩
 refine zov Tryz.func136 zi9 fun imm0 w0=>?_
 simp (disch:=omega) [zz]
 refine zcv hpc ?_
 simp (disch:=omega) [zz]
 refine qE (R:=fun r' H'=>∃c,r'=.av .func (.fn 175 [.ptr c zel []])∧H'=[(c,bsO ls)]) [] (p.core R r) (by simp) rfl (by simp[qQ]) (by simp) ?_ ?_
 ·simpa[TV.er,AV.er]using zji ls
 rintro r' H' ⟨c,rfl,rfl⟩ hnd2
 refine⟨(c,bsO ls)::p.core R r,HSub.refl _,?_⟩
 simp (disch:=omega) [zz]
 refine AT.absE (fun E=>E 1=.av .ptr (.ptr br .ptr [])∧E 2=.av .ptr (.ptr bw .str [])∧E 3=.av .ptr (.ptr bs YR [])∧E 9=.av .func (.fn 175 [.ptr c zel []])) (by simp) ?_
 rintro E ⟨hE1,hE2,hE3,hE9⟩
 refine AT.range (gf:=175) rfl (by simpa using hE9) rfl (by simp) ?_
 intro y D rr i0 w1 hy hrec hready hpend hpar has hbo
 obtain⟨G,hG⟩:∃G:Nat→q8→Prop,G=fun k H=>∃p':zY,p'.OK R (wT r ((ls.reverse.take k).map fun s=>.line s w))∧p'.q=some Q∧(br,zA R)∈p'.S∧(bw,zF w)∈p'.S∧(bs,JU Q)∈p'.S∧H=(y,.lrec rr i0 w1)::p'.core R (wT r ((ls.reverse.take k).map fun s=>.line s w)):=⟨_,rfl⟩
 refine⟨(c,bsO ls)::(y,.lrec rr i0 w1)::p.core R r,[],fun t H'=>t=.tup []∧∃H1,G ls.length H1∧H'=(c,bsO ls)::H1,?_,?_,?_⟩
 ·rw[List.append_nil]
  exact List.Perm.swap _ _ _
 ·have her:=(show z6 R r (p.core R r) from⟨p,hp,rfl⟩).er
  have he:q8.er ((c,bsO ls)::(y,.lrec rr i0 w1)::p.core R r)=(c,bsO ls)::(y,.lrec rr i0 w1)::p.core R r:=by
   rw[q8.er_cons,q8.er_cons,her,zjc];rfl
  rw[he]
  refine zhr (G:=G) y c ls (by omega) ?_ ?_ _ ?_
  ·rw[hG]
   rintro k H ⟨p',hp',_,_,_,_,rfl⟩
   rw[q8.er_cons,(show z6 R _ (p'.core R _) from⟨p',hp',rfl⟩).er];rfl
  ·rw[hG]
   rintro k hk H ⟨p',hp',hq',hbr',hbw',hbs',rfl⟩
   obtain⟨x,hx⟩:∃x,x=ls[ls.length-1-k]'(by omega):=⟨_,rfl⟩
   obtain⟨r1,hr1⟩:∃r1,r1=wT r ((ls.reverse.take k).map fun s=>.line s w):=⟨_,rfl⟩
   have hnx:wT r ((ls.reverse.take (k+1)).map fun s=>.line s w)=wT r1 [.line x w]:=by
    rw[List.take_succ_eq_append_getElem (by simpa using hk),List.getElem_reverse,hr1,hx]
    simp[wT]
   have hr1t:r1.todo.length≤2000000000:=by
    rw[hr1]
    simp[wT]
    omega
   rw[←hr1]at hp' ⊢
   rw[←hx]
   refine zeS (R:=fun rrr H'=>rrr=.av .bool (.b true)∧∃p'':zY,p''.OK R (wT r1 [.line x w])∧p''.q=some Q∧(br,zA R)∈p''.S∧(bw,zF w)∈p''.S∧(bs,JU Q)∈p''.S∧Ab.HSub ((y,.lrec rr i0 w1)::p''.core R (wT r1 [.line x w])) H') ?_ (fun rrr H' ⟨e1,p'',e2,e3,e4,e5,e6,e7⟩ _=>⟨_,e7,e1,p'',by rw[hnx];exact e2,e3,e4,e5,e6,by rw[hnx]⟩)
   refine ze0 fun hnd=>?_
   obtain⟨S2,hS2⟩:=GZ hbr'
   obtain⟨rest,hrest⟩:∃rest:q8,rest=(p'.K,.map 9 33 (knE r1.known))::(p'.QH++S2):=⟨_,rfl⟩
   have hp1:((y,HObj.lrec rr i0 w1)::p'.core R r1).Perm ((y,.lrec rr i0 w1)::(R,qW p'.ta (zS r1.env) r1.buf p'.K r1.asks r1.waits r1.over)::(br,zA R)::(p'.TA++rest)):=by
    refine List.perm_iff_count.2 fun a=>?_
    have:=hS2.count_eq a
    rw[hrest]
    simp only[zY.core,List.count_append,List.count_cons]at this ⊢
    omega
   have hnd1:(q8.keys ((y,HObj.lrec rr i0 w1)::(R,qW p'.ta (zS r1.env) r1.buf p'.K r1.asks r1.waits r1.over)::(br,zA R)::(p'.TA++rest))).Nodup:=by
    have h1:(((y,HObj.lrec rr i0 w1)::p'.core R r1).map Prod.fst).Nodup:=hnd
    exact(hp1.map Prod.fst).nodup_iff.1 h1
   have hrer:rest.er=rest:=by
    have h1:=VD hp1 (by rw[q8.er_cons,(show z6 R _ (p'.core R _) from⟨p',hp',rfl⟩).er];rfl)
    exact WW.2 fun z hz=>WW.1 h1 z (by simp[hz])
   refine zfP hp1 ?_
   refine YC.of_round (l:=y) hrec hready (by rw[hpar];rfl) (by rw[hpar];simp) (fun imm wd=>?_)
   rw[has,hbo,hpar]
   have hrl:∀(pp:Array Nat) (a b:Code),pp=rr.params→a=rr.assign→b=rr.body→({ state:=.ready,pending:=none,fn:=rr.fn,tmps:=rr.tmps,params:=pp,assign:=a,body:=b,defers:=rr.defers }:Loop)=rr:=by
    rintro _ _ _ rfl rfl rfl;exact u7 hready hpend
   have her:∀r',(HObj.lrec r' i0 w1).er=HObj.lrec r' i0 w1:=fun _=>rfl
   have hbwk:∀b6:Nat,¬b6=br→¬b6∈rest.keys→b6≠bw:=by
    intro b6 h1 h2 e
    rw[←e]at hbw'
    rcases List.mem_cons.1 (hS2.mem_iff.1 hbw')with e|h
    ·exact h1 (congrArg Prod.fst e)
    ·exact h2 (List.mem_map.2 ⟨(b6,zF w),by rw[hrest];simp[h],rfl⟩)
   have fin:∀(b6:Nat) (ta':AV) (TA' H':q8),zaQ (p'.fs++[.fn 138 [.ptr b6 .str [],.ptr bw .str [],.ptr br .ptr [],.ptr bs YR []]]) ta' TA'→b6≠bw→
     Ab.HSub ((b6,zF x)::(y,.lrec rr i0 w1)::(R,qW ta' (zS r1.env) r1.buf p'.K r1.asks r1.waits r1.over)::(br,zA R)::(TA'++rest)) H'→
     ∃p'':zY,p''.OK R (wT r1 [.line x w])∧p''.q=some Q∧(br,zA R)∈p''.S∧(bw,zF w)∈p''.S∧(bs,JU Q)∈p''.S∧Ab.HSub ((y,.lrec rr i0 w1)::p''.core R (wT r1 [.line x w])) H':=by
    intro b6 ta' TA' H' hT hne hsub
    refine⟨{ p' with TA:=TA',S:=(b6,zF x)::p'.S,fs:=p'.fs++[.fn 138 [.ptr b6 .str [],.ptr bw .str [],.ptr br .ptr [],.ptr bs YR []]],ta:=ta' },⟨hT,hp'.seen,?_,?_⟩,hq',List.mem_cons_of_mem _ hbr',List.mem_cons_of_mem _ hbw',List.mem_cons_of_mem _ hbs',?_⟩
    ·show q8.er ((b6,zF x)::p'.S)=_
     rw[q8.er_cons,hp'.box]
     simp[zF,HObj.er_var,AV.erk]
    ·exact(hp'.tds.mono fun z hz=>List.mem_cons_of_mem _ hz).one ⟨Q,b6,bw,br,bs,hq',rfl,hne,List.mem_cons_self,List.mem_cons_of_mem _ hbw',List.mem_cons_of_mem _ hbr',List.mem_cons_of_mem _ hbs'⟩
    ·refine YX (HSub.of_perm ?_) hsub
     refine List.perm_iff_count.2 fun a=>?_
     have:=hS2.count_eq a
     rw[hrest]
     simp only[zY.core,wT,List.count_append,List.count_cons]at this ⊢
     omega
   rcases hp'.todo with⟨hfs,hta,hTA⟩|⟨T,cap,j,hj,hta,hcap,hTA⟩
   ·rw[hTA]at hnd1 ⊢
    rw[hta]
    rw[hfs]at fin
    simp at hnd1
    obtain⟨⟨n1,n2,n3⟩,⟨n4,n5⟩,n6,n7⟩:=hnd1
    have n1':¬R=y:=fun e=>n1 e.symm
    have n2':¬br=y:=fun e=>n2 e.symm
    have n4':¬br=R:=fun e=>n4 e.symm
    refine qM (cf:=zi9) laid mixed _ _ _ (by kernel_rfl) ?_
    simp (disch:=omega) [zz,QW,yL,vS,hE1,hE2,hE3]
    intro b6 m1 m2 m3 m4
    have m1':¬y=b6:=fun e=>m1 e.symm
    have m2':¬R=b6:=fun e=>m2 e.symm
    have m3':¬br=b6:=fun e=>m3 e.symm
    refine⟨by assumption,?_⟩
    refine qM (cf:=zi9) laid mixed _ _ _ (by kernel_rfl) ?_
    simp (disch:=omega) [zz]
    refine jW.ofK [0,1,2,3,4,5,6,7,8,9,10] [0] [br] (by kernel_rfl) ?_
    simp (disch:=omega) [zz,hE1,hE2,hE3,n1,n2,n4,n1',n2',n4',m1,m2,m3,m1',m2',m3',zA,qW]
    (repeat with_reducible refine om ?_)
    intro b cap c1 c2 c3 c4 c5 c6
    have c1':¬b6=b:=fun e=>c1 e.symm
    have c2':¬y=b:=fun e=>c2 e.symm
    have c3':¬R=b:=fun e=>c3 e.symm
    have c4':¬br=b:=fun e=>c4 e.symm
    refine⟨c4,?_⟩
    (repeat with_reducible refine om ?_)
    simp (disch:=omega) [zz,n1,n2,n4,n1',n2',n4',m1,m2,m3,m1',m2',m3',c1,c2,c3,c4,c1',c2',c3',c4']
    simp (disch:=omega) [zz,WR,uV,hrer,zV,Q5,n1,n2,n4,n1',n2',n4',m1,m2,m3,m1',m2',m3',c1,c2,c3,c4,c1',c2',c3',c4']
    rw[her,hrl _ _ _ hpar.symm has.symm hbo.symm,show AV.erks (List.replicate (cap-1) AV.nilfn)=_ from JK.rep rfl _]
    refine fin b6 (.msl b 1 0 1 cap) [(b,.var (.arr cap 1) (.agg (_::List.replicate (cap-1) .nilfn)))] _ (.inr ⟨b,cap,List.replicate (cap-1) .nilfn,JK.rep rfl _,rfl,by simp;omega,rfl⟩) (hbwk b6 m3 m4) (HSub.of_perm ?_)
    refine List.perm_iff_count.2 fun a=>?_
    simp only[List.count_append,List.count_cons,List.count_nil,zF,zA,qW]
    omega
   ·rw[hTA]at hnd1 ⊢
    rw[hta]
    simp at hnd1
    obtain⟨⟨n1,n2,n8,n3⟩,⟨n4,n9,n5⟩,⟨n10,n6⟩,n11,n7⟩:=hnd1
    have n1':¬R=y:=fun e=>n1 e.symm
    have n2':¬br=y:=fun e=>n2 e.symm
    have n4':¬br=R:=fun e=>n4 e.symm
    have n8':¬T=y:=fun e=>n8 e.symm
    have n9':¬T=R:=fun e=>n9 e.symm
    have n10':¬T=br:=fun e=>n10 e.symm
    have hfl:=hp'.tds.len
    have hcapn:(0:Nat)+cap=cap:=by omega
    obtain⟨fs,hfs⟩:∃fs,fs=p'.fs:=⟨_,rfl⟩
    rw[←hfs]at fin hfl hcap ⊢
    have hjfs:=hp'.tds.jk
    rw[←hfs]at hjfs
    refine qM (cf:=zi9) laid mixed _ _ _ (by kernel_rfl) ?_
    simp (disch:=omega) [zz,QW,yL,vS,hE1,hE2,hE3]
    intro b6 m1 m2 m3 m5 m4
    have m1':¬y=b6:=fun e=>m1 e.symm
    have m2':¬R=b6:=fun e=>m2 e.symm
    have m3':¬br=b6:=fun e=>m3 e.symm
    have m5':¬T=b6:=fun e=>m5 e.symm
    refine⟨by assumption,?_⟩
    refine qM (cf:=zi9) laid mixed _ _ _ (by kernel_rfl) ?_
    simp (disch:=omega) [zz]
    refine jW.ofK [0,1,2,3,4,5,6,7,8,9,10] [0] [br] (by kernel_rfl) ?_
    simp (disch:=omega) [zz,hE1,hE2,hE3,n1,n2,n4,n1',n2',n4',n8,n9,n10,n8',n9',n10',m1,m2,m3,m1',m2',m3',m5,m5',zA,qW]
    (repeat with_reducible refine om ?_)
    refine⟨fun hroom=>?_,fun hgrow=>?_⟩
    ·(repeat with_reducible refine om ?_)
     simp (disch:=omega) [zz,WR,uV,hrer,zV,Q5,n1,n2,n4,n1',n2',n4',n8,n9,n10,n8',n9',n10',m1,m2,m3,m1',m2',m3',m5,m5']
     rw[her,hrl _ _ _ hpar.symm has.symm hbo.symm]
     rw[show AV.erks (fs++AV.fn 138 [.ptr b6 .str [],.ptr bw .str [],.ptr br .ptr [],.ptr bs YR []]::j.tail)=_ from hjfs.app (JK.cons rfl hj.tail),List.append_cons]
     refine fin b6 (.msl T 1 0 (fs.length+1) cap) [(T,.var (.arr cap 1) (.agg (fs++[_]++j.tail)))] _ (.inr ⟨T,cap,j.tail,hj.tail,by simp,by simp;omega,rfl⟩) (hbwk b6 m3 m4) (HSub.of_perm ?_)
     refine List.perm_iff_count.2 fun a=>?_
     simp only[List.count_append,List.count_cons,List.count_nil,zF,zA,qW]
     omega
    ·intro b cap2 c1 c2 c3 c4 c7 c5 c6
     have c1':¬b6=b:=fun e=>c1 e.symm
     have c2':¬y=b:=fun e=>c2 e.symm
     have c3':¬R=b:=fun e=>c3 e.symm
     have c4':¬br=b:=fun e=>c4 e.symm
     have c7':¬T=b:=fun e=>c7 e.symm
     refine⟨c4,?_⟩
     (repeat with_reducible refine om ?_)
     simp (disch:=omega) [zz,n1,n2,n4,n1',n2',n4',n8,n9,n10,n8',n9',n10',m1,m2,m3,m1',m2',m3',m5,m5',c1,c2,c3,c4,c7,c1',c2',c3',c4',c7']
     simp (disch:=omega) [zz,WR,uV,hrer,zV,Q5,n1,n2,n4,n1',n2',n4',n8,n9,n10,n8',n9',n10',m1,m2,m3,m1',m2',m3',m5,m5',c1,c2,c3,c4,c7,c1',c2',c3',c4',c7']
     rw[her,hrl _ _ _ hpar.symm has.symm hbo.symm]
     rw[show AV.erks (fs++AV.fn 138 [.ptr b6 .str [],.ptr bw .str [],.ptr br .ptr [],.ptr bs YR []]::List.replicate (cap2-(fs.length+1)) AV.nilfn)=_ from hjfs.app (JK.cons rfl (JK.rep rfl _)),List.append_cons]
     refine fin b6 (.msl b 1 0 (fs.length+1) cap2) [(b,.var (.arr cap2 1) (.agg (fs++[_]++List.replicate (cap2-(fs.length+1)) .nilfn)))] _ (.inr ⟨b,cap2,_,JK.rep rfl _,by simp,by simp;omega,rfl⟩) (hbwk b6 m3 m4) ⟨(T,.var (.arr cap 1) (.agg (AV.erks (fs++j))))::_,?_,(List.Sublist.refl _).cons _⟩
     refine List.perm_iff_count.2 fun a=>?_
     simp only[List.count_append,List.count_cons,List.count_nil,zF,zA,qW]
     omega
  ·rw[hG]
   exact⟨p,by simpa[wT]using hp,hq,hbr,hbw,hbs,by simp[wT]⟩
 ·rintro t H' ⟨rfl,H1,hg,rfl⟩ hnd3
  rw[hG]at hg
  obtain⟨p',hp',hq',hbr',hbw',hbs',rfl⟩:=hg
  refine⟨rr,(c,bsO ls)::p'.core R _,HSub.of_perm (by rw[List.append_nil];exact List.Perm.swap _ _ _),by rw[hready];simp,?_⟩
  rw[hpend]
  have her:=(show z6 R _ (p'.core R _) from⟨p',hp',rfl⟩).er
  have hfin:wT r ((ls.reverse.take ls.length).map fun s=>.line s w)=thR (.scan w) d r:=by
   rw[List.take_of_length_le (by simp)]
   simp[thR,wT,hls]
  rw[hfin]at her hp'
  rw[hfin]
  simp (disch:=omega) [zz,PR,Tryz.f136,her]
  exact⟨p'.core R (thR (.scan w) d r),HSub.of_sub ((List.Sublist.refl _).cons _),p',hp',rfl⟩
def VC1 (v:AV) (args:List TV) (H:q8) (R:TV→q8→Prop):Prop:=match v with
 | .fn g caps=>∃cs,caps.mapM Z5=some cs∧qZ Tryz.prog g=true∧q7 Tryz.prog g ((args++cs).map TV.er) H R
 | .bm g fs=>∃cs,fs.mapM Z5=some cs∧qZ Tryz.prog g=true∧q7 Tryz.prog g ((cs++args).map TV.er) H R
 | _=>False
theorem ZG {s:St} {v:AV} {args:List TV} {dst:Option Nat} {K:St→Prop} {R:TV→q8→Prop} (Hs rest:q8) (hp:s.H.Perm (Hs++rest)) (he:Hs.er=Hs) (ha:args.all qQ=true) (h:VC1 v args Hs R)
  (hk:∀r H',R r H'→(H'++rest).keys.Nodup→∃H'',Ab.HSub H'' (H'++rest)∧K (({ s with H:=H'' }:St).put dst r)):ZP Tryz.prog s (.av .func v) args dst K:=by
 unfold VC1 at h
 split at h
 ·obtain⟨cs,h1,h2,h3⟩:=h
  exact qE Hs rest hp h1 ha h2 (by rw[he];exact h3) hk
 ·obtain⟨cs,h1,h2,h3⟩:=h
  exact zio Hs rest hp h1 ha h2 (by rw[he];exact h3) hk
 ·exact h.elim
theorem zoS (R:Nat) (d:Txt) {t:ThV} {v:AV} {r:zCT} {p:zY} (hp:p.OK R r) (ht:zcq R p.q p.S t v) (hb:r.buf.length≤1000000000) (hd:d.length≤1000000) (htd:r.todo.length≤1000000000) :
  VC1 v [.av .str (.s d)] (p.core R r) fun y H'=>y=.tup []∧z6 R (thR t d r) H':=by
 cases t with
 | add =>
  have hv:v=_:=ht
  rw[hv]
  exact⟨_,rfl,by simp,zjg R d ⟨p,hp,rfl⟩ hb (by omega)⟩
 | scan w =>
  obtain⟨Q,br,bw,bs,hq,rfl,h1,h2,h3⟩:=ht
  exact⟨_,rfl,by simp,ziy R Q br bw bs w d hp hq h1 h2 h3 hd htd⟩
theorem zl3 {R:Nat} {v:AV}:zA R≠yE v:=by simp[zA,yE]
theorem zgG (R br bt:Nat) (x:KnV) {t:ThV} {tv:AV} {r:zCT} {p:zY} (hp:p.OK R r) (hbr:(br,zA R)∈p.S) (hbt:(bt,yE tv)∈p.S) (ht:zcq R p.q p.S t tv) (hb:r.buf.length≤1000000000) (hx:x.is=true→x.data.length≤1000000) (htd:r.todo.length≤1000000000) :
  q7 Tryz.prog 135 [.av (qD Tryz.prog 33) (zH x),.av .ptr (.ptr br .ptr []),.av .ptr (.ptr bt .func [])] (p.core R r) fun y H'=>y=.tup []∧z6 R (coR (.there t) x r) H':=by
 have hH:z6 R r (p.core R r):=⟨p,hp,rfl⟩
 have hth:=fun h=>zoS R x.data hp ht hb (hx h) htd
 have her:=hH.er
 obtain⟨H,hHe⟩:∃H,H=p.core R r:=⟨_,rfl⟩
 have hm:(br,zA R)∈H:=hHe▸zY.memS hbr
 have hm2:(bt,yE tv)∈H:=hHe▸zY.memS hbt
 rw[←hHe]at hH her hth ⊢
 refine q7.nodup fun hnd=>?_
 have hne:br≠bt:=Y4 hnd hm hm2 zl3
 have hne':¬bt=br:=fun e=>hne e.symm
 obtain⟨rest,hpm⟩:=zk9 hm hm2 hne
 have hre:=VD hpm her
 refine q7.sub (R:=fun y H'=>y=.tup []∧∃H2,Ab.HSub H2 H'∧z6 R (coR (.there t) x r) H2) ?_ fun y H' ⟨h1,H2,h2,h3⟩ _=>⟨H2,h2,h1,h3⟩
 refine q7.perm hpm ?_
 refine zov Tryz.func135 cf0 fun imm0 w0=>?_
 simp (disch:=omega) [zz,zH]
 cases hxi:x.is
 ·simp (disch:=omega) [zz,hxi,zA,yE,hne,hne']
  refine qE (R:=fun y H'=>y=.tup []∧z6 R (wC 10 r) H') H [] (by simpa[zA,yE]using hpm.symm) rfl (by simp[qQ]) (by simp) ?_ ?_
  ·rw[her]
   exact q7.args (ze1 R 10 hH) (by simp[qS,coC,TV.er,AV.er])
  rintro y H' ⟨rfl,hh⟩ _
  refine⟨H',by simpa using HSub.refl _,?_⟩
  have hhe:=hh.er
  simp (disch:=omega) [zz,Tryz.f135,hhe,coR,hxi]
  exact⟨H',HSub.refl _,hh⟩
 ·simp (disch:=omega) [zz,hxi,zA,yE,hne,hne']
  refine ZG (R:=fun y H'=>y=.tup []∧z6 R (thR t x.data r) H') H [] (by simpa[zA,yE]using hpm.symm) her (by simp[qQ]) (hth hxi) ?_
  rintro y H' ⟨rfl,hh⟩ _
  refine⟨H',by simpa using HSub.refl _,?_⟩
  have hhe:=hh.er
  simp (disch:=omega) [zz,Tryz.f135,hhe,coR,hxi]
  exact⟨H',HSub.refl _,hh⟩
theorem zn6 (R:Nat) (x:KnV) {k:CoV} {v:AV} {r:zCT} {p:zY} (hp:p.OK R r) (hk:UX R p.q p.S k v) (hb:r.buf.length≤1000000000) (hx:x.is=true→x.data.length≤1000000) (htd:r.todo.length≤1000000000) :
  VC1 v [.av (qD Tryz.prog 33) (zH x)] (p.core R r) fun y H'=>y=.tup []∧z6 R (coR k x r) H':=by
 have hxe:(TV.av (qD Tryz.prog 33) (zH x)).er=.av (qD Tryz.prog 33) (zH x):=by simp[TV.er,zH,AV.er,AV.ers]
 cases k with
 | there t =>
  obtain⟨br,bt,tv,rfl,h1,h2,h3⟩:=hk
  refine⟨[.av .ptr (.ptr br .ptr []),.av .ptr (.ptr bt .func [])],rfl,by simp,?_⟩
  have:=zgG R br bt x hp h1 h2 h3 hb hx htd
  simp only[List.cons_append,List.nil_append,List.map_cons,List.map_nil,hxe]
  exact this
 | tr =>
  obtain⟨br,rfl,h1⟩:=hk
  refine⟨[.av .ptr (.ptr br .ptr [])],rfl,by simp,?_⟩
  have:=zoK R br x hp h1 hb (fun h=>by have:=hx h;omega)
  simp only[List.cons_append,List.nil_append,List.map_cons,List.map_nil,hxe]
  exact this
theorem X6 (p:Txt):∀l:List KnV,yY (.s p) (knE l)=(zQ l p).map zH
 | []=>rfl
 | k::l=>by
  have ih:=X6 p l
  simp only[knE,List.map_cons,yY,zQ,List.find?_cons]at ih ⊢
  by_cases h:k.path=p
  ·simp[h]
  ·simp only[AV.s.injEq,h,if_false,decide_false]
   exact ih
theorem zY.KR {p:zY} {R:Nat} {r:zCT} (h:(p.core R r).keys.Nodup):¬p.K=R∧¬R=p.K:=by
 have h1:(R::p.K::q8.keys (p.TA++(p.QH++p.S))).Nodup:=h
 rw[List.nodup_cons]at h1
 have:R≠p.K:=fun e=>h1.1 (e▸List.mem_cons_self)
 exact⟨fun e=>this e.symm,this⟩
theorem vU (x:KnV):(zH x).er=zH x∧(zH x).erk=zH x:=by simp[zH,AV.er,AV.ers,AV.erk,AV.erks]
theorem zcz {a b c:q8} (h:Ab.HSub b c) (hp:b.Perm a):Ab.HSub a c:=YX (HSub.of_perm hp) h
abbrev znc:Cfg:=⟨fun _=>false,fun n=>n==1000006||n==1000007⟩
set_option maxHeartbeats 8000000 in
theorem zgV (R:Nat) (pth:Txt) (x:KnV) (k:CoV) (kv:AV) {r:zCT} {p:zY} (hp:p.OK R r) (hk:UX R p.q p.S k kv) (hf:zQ r.known pth=some x) (hb:r.buf.length≤1000000000) (hx:x.is=true→x.data.length≤1000000) (htd:r.todo.length≤1000000000) :
  q7 Tryz.prog 97 [.av .ptr (.ptr R kQ []),.av .str (.s pth),.av .func kv] (p.core R r) fun y H'=>y=.tup []∧z6 R (Q6 pth k r) H':=by
 have her:=(show z6 R r (p.core R r) from⟨p,hp,rfl⟩).er
 obtain⟨hk1,hk2⟩:=hk.er
 have hmf:=X6 pth r.known
 rw[hf,Option.map_some]at hmf
 have hask:Q6 pth k r=coR k x r:=by simp[Q6,hf]
 have hco:=zn6 R x hp hk hb hx htd
 rw[hask]
 refine q7.nodup fun hnd=>?_
 obtain⟨n1,n2⟩:=zY.KR hnd
 obtain⟨xe1,xe2⟩:=vU x
 refine q7.sub (R:=fun y H'=>y=.tup []∧∃H2,Ab.HSub H2 H'∧z6 R (coR k x r) H2) ?_ fun y H' ⟨h1,H2,h2,h3⟩ _=>⟨H2,h2,h1,h3⟩
 refine zov Tryz.func97 znc fun imm0 w0=>?_
 simp (disch:=omega) [zz,zY.core,qW,n1,n2,hmf,hk1,hk2,xe1,xe2]
 (repeat with_reducible refine om ?_)
 refine ZG (R:=fun y H'=>y=.tup []∧z6 R (coR k x r) H') (p.core R r) [] (by simp[zY.core,qW]) her (by simp[qQ]) (by simpa using hco) ?_
 rintro y H' ⟨rfl,hh⟩ _
 refine⟨H',by simpa using HSub.refl _,?_⟩
 have hhe:=hh.er
 simp (disch:=omega) [zz,Tryz.f97,hhe]
 exact⟨H',HSub.refl _,hh⟩
set_option maxHeartbeats 8000000 in
theorem zj4 (R:Nat) (pth:Txt) (k:CoV) (kv:AV) {r:zCT} {p:zY} (hp:p.OK R r) (hk:UX R p.q p.S k kv) (hf:zQ r.known pth=none) (hn:500≤r.known.length) (hn2:r.known.length≤1000000000) :
  q7 Tryz.prog 97 [.av .ptr (.ptr R kQ []),.av .str (.s pth),.av .func kv] (p.core R r) fun y H'=>y=.tup []∧z6 R (Q6 pth k r) H':=by
 have her:=(show z6 R r (p.core R r) from⟨p,hp,rfl⟩).er
 obtain⟨hk1,hk2⟩:=hk.er
 have hmf:=X6 pth r.known
 rw[hf,Option.map_none]at hmf
 have hask:Q6 pth k r=wC 6 r:=by simp[Q6,hf,hn]
 rw[hask]
 have hkl:(knE r.known).length=r.known.length:=by simp[knE]
 have hge:(500:Int)≤r.known.length:=by omega
 refine q7.nodup fun hnd=>?_
 obtain⟨n1,n2⟩:=zY.KR hnd
 refine q7.sub (R:=fun y H'=>y=.tup []∧∃H2,Ab.HSub H2 H'∧z6 R (wC 6 r) H2) ?_ fun y H' ⟨h1,H2,h2,h3⟩ _=>⟨H2,h2,h1,h3⟩
 refine zov Tryz.func97 znc fun imm0 w0=>?_
 simp (disch:=omega) [zz,zY.core,qW,n1,n2,hmf,hk1,hk2,hge,hkl]
 (repeat with_reducible refine om ?_)
 refine qE (R:=fun y H'=>y=.tup []∧z6 R (wC 6 r) H') (p.core R r) [] (by simp[zY.core,qW]) rfl (by simp[qQ]) (by simp) ?_ ?_
 ·rw[her]
  exact q7.args (ze1 R 6 ⟨p,hp,rfl⟩) (by simp[qS,coC,TV.er,AV.er])
 rintro y H' ⟨rfl,hh⟩ _
 refine⟨H',by simpa using HSub.refl _,?_⟩
 have hhe:=hh.er
 simp (disch:=omega) [zz,Tryz.f97,hhe]
 exact⟨H',HSub.refl _,hh⟩
abbrev zrw:Cfg:=⟨fun n=>n==3||n==4||n==5,fun n=>n==1000006||n==2000033||n==45||n==1000007||n==2000043||n==35⟩
theorem zbP (l:List KnV):List.map (fun p:AV × AV=>(p.1.er,p.2.er)) (knE l)=knE l:=by
 have:=zhD l
 rw[HObj.er_map]at this
 exact(HObj.map.inj this).2.2
set_option maxHeartbeats 8000000 in
theorem zjr (R:Nat) (pth:Txt) (k:CoV) (kv:AV) {r:zCT} {p:zY} (hp:p.OK R r) (hk:UX R p.q p.S k kv) (hf:zQ r.known pth=none) (hn:¬500≤r.known.length) (htd:r.todo.length≤1000000000) :
  q7 Tryz.prog 97 [.av .ptr (.ptr R kQ []),.av .str (.s pth),.av .func kv] (p.core R r) fun y H'=>y=.tup []∧z6 R (Q6 pth k r) H':=by
 have her:=(show z6 R r (p.core R r) from⟨p,hp,rfl⟩).er
 obtain⟨hk1,hk2⟩:=hk.er
 have hmf:=X6 pth r.known
 rw[hf,Option.map_none]at hmf
 have hkl:(knE r.known).length=r.known.length:=by simp[knE]
 obtain⟨r2,hr2⟩:∃r2:zCT,r2={ r with asks:=pth,waits:=true,todo:=r.todo++[.ans k pth] }:=⟨_,rfl⟩
 have hask:Q6 pth k r=r2:=by simp[Q6,hf,hn,hr2]
 rw[hask]
 have hge:¬(500:Int)≤r.known.length:=by omega
 refine q7.nodup fun hnd=>?_
 obtain⟨n1,n2⟩:=zY.KR hnd
 have fin:∀(b3 b4 b5:Nat) (ta':AV) (TA' H':q8),zaQ (p.fs++[.fn 134 [.ptr b5 .func [],.ptr b3 .ptr [],.ptr b4 .str []]]) ta' TA'→
   Ab.HSub ((R,qW ta' (zS r.env) r.buf p.K pth true r.over)::(p.K,.map 9 33 (knE r.known))::(b5,yE kv)::(b4,zF pth)::(b3,zA R)::(TA'++(p.QH++p.S))) H'→∃H2,Ab.HSub H2 H'∧z6 R r2 H2:=by
  intro b3 b4 b5 ta' TA' H' hT hsub
  refine⟨_,zcz hsub ?_,{ p with TA:=TA',S:=(b5,yE kv)::(b4,zF pth)::(b3,zA R)::p.S,fs:=p.fs++[.fn 134 [.ptr b5 .func [],.ptr b3 .ptr [],.ptr b4 .str []]],ta:=ta' },⟨hT,by rw[hr2];exact hp.seen,?_,?_⟩,rfl⟩
  ·rw[hr2]
   refine List.perm_iff_count.2 fun a=>?_
   simp only[zY.core,List.count_append,List.count_cons]
   omega
  ·show q8.er ((b5,yE kv)::(b4,zF pth)::(b3,zA R)::p.S)=_
   simp only[q8.er_cons,hp.box,zF,yE,zA,HObj.er_var,AV.erk,hk2]
  ·rw[hr2]
   have hm:∀z∈p.S,z∈(b5,yE kv)::(b4,zF pth)::(b3,zA R)::p.S:=fun z hz=>by simp[hz]
   exact(hp.tds.mono hm).one ⟨b5,b3,b4,kv,rfl,by simp,by simp,by simp,hk.mono hm⟩
 refine q7.sub (R:=fun y H'=>y=.tup []∧∃H2,Ab.HSub H2 H'∧z6 R r2 H2) ?_ fun y H' ⟨h1,H2,h2,h3⟩ _=>⟨H2,h2,h1,h3⟩
 refine zov Tryz.func97 zrw fun imm0 w0=>?_
 (simp (maxSteps:=2000000) (disch:=first|omega|assumption) [zz,-List.reduceReplicate,zY.core,qW])
 intro b3 m1 m2 m3 m4 m5 b4 o0 o1 o2 o3 o4 o5 b5 q6 q0 q1 q2 q3 q4 q5
 have sy:∀ {a b:Nat},¬a=b→¬b=a:=fun h e=>h e.symm
 have m1':=sy m1;have m2':=sy m2;have o0':=sy o0;have o1':=sy o1;have o2':=sy o2;have q6':=sy q6;have q0':=sy q0;have q1':=sy q1;have q2':=sy q2
 simp (disch:=omega) [zz,hmf,hk1,hk2,n1,n2,m1,m2,m1',m2',o0,o1,o2,o0',o1',o2',q6,q0,q1,q2,q6',q0',q1',q2']
 (repeat with_reducible refine om ?_)
 intro _
 refine jW.ofK [1,0,2,3,4,5,6,7,8] [1] [b3] (by kernel_rfl) ?_
 simp (disch:=omega) [zz,n1,n2,m1,m2,m1',m2',o0,o1,o2,o0',o1',o2',q6,q0,q1,q2,q6',q0',q1',q2']
 (repeat with_reducible refine om ?_)
 obtain⟨rest,hrest⟩:∃rest:q8,rest=p.QH++p.S:=⟨_,rfl⟩
 have hrer:rest.er=rest:=by
  rw[zY.core]at her
  exact WW.2 fun z hz=>WW.1 her z (by rw[hrest]at hz;simp only[List.mem_cons,List.mem_append]at hz ⊢;exact .inr (.inr (.inr hz)))
 have hknE:=zbP r.known
 rw[←hrest]
 rw[←hrest]at fin
 have hndk:(R::p.K::(p.TA.keys++rest.keys)).Nodup:=by
  have:(p.core R r).keys=R::p.K::(p.TA.keys++rest.keys):=by rw[hrest];simp[zY.core,q8.keys]
  rw[←this];exact hnd
 rcases hp.todo with⟨hfs,hta,hTA⟩|⟨T,cap,j,hj,hta,hcap,hTA⟩
 ·rw[hta,hTA,List.nil_append]
  rw[hfs]at fin
  refine jW.ofK [0,1,2,3,4,5,6,7,8,9,10] [0] [b3] (by kernel_rfl) ?_
  simp (disch:=omega) [zz,n1,n2,m1,m2,m1',m2',o0,o1,o2,o0',o1',o2',q6,q0,q1,q2,q6',q0',q1',q2']
  (repeat with_reducible refine om ?_)
  intro b cap c5 c4 c3 c1 c2 c6 c7
  have c1':=sy c1;have c2':=sy c2;have c3':=sy c3;have c4':=sy c4;have c5':=sy c5
  refine⟨by assumption,?_⟩
  (repeat with_reducible refine om ?_)
  simp (disch:=omega) [zz,n1,n2,m1,m2,m1',m2',o0,o1,o2,o0',o1',o2',q6,q0,q1,q2,q6',q0',q1',q2',c5,c4,c3,c1,c2,c5',c4',c3',c1',c2']
  simp (disch:=omega) [zz,Tryz.f97,hrer,hknE,hk2,zV,Q5]
  rw[show AV.erks (List.replicate (cap-1) AV.nilfn)=_ from JK.rep rfl _]
  refine fin b3 b4 b5 (.msl b 1 0 1 cap) [(b,.var (.arr cap 1) (.agg (_::List.replicate (cap-1) .nilfn)))] _ (.inr ⟨b,cap,List.replicate (cap-1) .nilfn,JK.rep rfl _,rfl,by simp;omega,rfl⟩) (HSub.of_perm ?_)
  refine List.perm_iff_count.2 fun a=>?_
  simp only[List.count_append,List.count_cons,List.count_nil,zF,zA,yE,qW]
  omega
 ·rw[hTA]at hndk
  simp only[q8.keys,List.map_cons,List.map_nil,List.cons_append,List.nil_append,List.nodup_cons,List.mem_cons,not_or]at hndk
  obtain⟨⟨k1,t1',k2⟩,⟨t2',k3⟩,k4,k5⟩:=hndk
  have t1:=sy t1';have t2:=sy t2'
  rw[hTA]at m3 o3 q3
  simp only[q8.keys,List.map_cons,List.map_nil,List.mem_cons,List.not_mem_nil,or_false]at m3 o3 q3
  have t3':=m3;have t4':=o3;have t5':=q3
  have t3:=sy t3';have t4:=sy t4';have t5:=sy t5'
  rw[hta,hTA,List.cons_append,List.nil_append]
  have hfl:=hp.tds.len
  obtain⟨fs,hfs⟩:∃fs,fs=p.fs:=⟨_,rfl⟩
  rw[←hfs]at fin hfl hcap ⊢
  have hjfs:=hp.tds.jk
  rw[←hfs]at hjfs
  refine jW.ofK [0,1,2,3,4,5,6,7,8,9,10] [0] [b3] (by kernel_rfl) ?_
  simp (disch:=omega) [zz,n1,n2,m1,m2,m1',m2',o0,o1,o2,o0',o1',o2',q6,q0,q1,q2,q6',q0',q1',q2',t5,t4,t3,t1,t2,t5',t4',t3',t1',t2']
  (repeat with_reducible refine om ?_)
  refine⟨fun hroom=>?_,fun hgrow=>?_⟩
  ·(repeat with_reducible refine om ?_)
   simp (disch:=omega) [zz,Tryz.f97,hrer,hknE,hk2,zV,Q5]
   rw[show AV.erks (fs++AV.fn 134 [.ptr b5 .func [],.ptr b3 .ptr [],.ptr b4 .str []]::j.tail)=_ from hjfs.app (JK.cons rfl hj.tail),List.append_cons]
   refine fin b3 b4 b5 (.msl T 1 0 (fs.length+1) cap) [(T,.var (.arr cap 1) (.agg (fs++[_]++j.tail)))] _ (.inr ⟨T,cap,j.tail,hj.tail,by simp,by simp;omega,rfl⟩) (HSub.of_perm ?_)
   refine List.perm_iff_count.2 fun a=>?_
   simp only[List.count_append,List.count_cons,List.count_nil,zF,zA,yE,qW]
   omega
  ·intro b cap2 c5 c4 c3 c1 c2 c8 c6 c7
   have c1':=sy c1;have c2':=sy c2;have c3':=sy c3;have c4':=sy c4;have c5':=sy c5;have c8':=sy c8
   refine⟨by assumption,?_⟩
   (repeat with_reducible refine om ?_)
   simp (disch:=omega) [zz,n1,n2,m1,m2,m1',m2',o0,o1,o2,o0',o1',o2',q6,q0,q1,q2,q6',q0',q1',q2',t5,t4,t3,t1,t2,t5',t4',t3',t1',t2',c5,c4,c3,c1,c2,c5',c4',c3',c1',c2',c8,c8']
   simp (disch:=omega) [zz,Tryz.f97,hrer,hknE,hk2,zV,Q5]
   rw[show AV.erks (fs++AV.fn 134 [.ptr b5 .func [],.ptr b3 .ptr [],.ptr b4 .str []]::List.replicate (cap2-(fs.length+1)) AV.nilfn)=_ from hjfs.app (JK.cons rfl (JK.rep rfl _)),List.append_cons]
   refine fin b3 b4 b5 (.msl b 1 0 (fs.length+1) cap2) [(b,.var (.arr cap2 1) (.agg (fs++[_]++List.replicate (cap2-(fs.length+1)) .nilfn)))] _ (.inr ⟨b,cap2,_,JK.rep rfl _,by simp,by simp;omega,rfl⟩) ⟨(T,.var (.arr cap 1) (.agg (AV.erks (fs++j))))::_,?_,(List.Sublist.refl _).cons _⟩
   refine List.perm_iff_count.2 fun a=>?_
   simp only[List.count_append,List.count_cons,List.count_nil,zF,zA,yE,qW]
   omega
theorem dY {kn:List KnV} {p:Txt} {k:KnV} (h:zQ kn p=some k):k∈kn:=List.mem_of_find?_eq_some h
structure RB (r:zCT):Prop where
 buf:r.buf.length≤1000000000
 todo:r.todo.length≤1000000000
 dat:∀k∈r.known,k.is=true→k.data.length≤1000000
 nk:r.known.length≤1000000000
theorem zey (R:Nat) (pth:Txt) (k:CoV) (kv:AV) {r:zCT} {p:zY} (hp:p.OK R r) (hk:UX R p.q p.S k kv) (hb:RB r) :
  q7 Tryz.prog 97 [.av .ptr (.ptr R kQ []),.av .str (.s pth),.av .func kv] (p.core R r) fun y H'=>y=.tup []∧z6 R (Q6 pth k r) H':=by
 cases hf:zQ r.known pth with
 | some x=>exact zgV R pth x k kv hp hk hf hb.buf (hb.dat x (dY hf)) hb.todo
 | none =>
  by_cases hn:500≤r.known.length
  ·exact zj4 R pth k kv hp hk hf hn hb.nk
  ·exact zjr R pth k kv hp hk hf hn hb.todo
theorem zdy (p:Txt):∀l:List Txt,p∉l→xX (.s p) (.b true) (QY l)=QY (l++[p])
 | [],_=>rfl
 | x::l,h=>by
  have h1:x≠p:=fun e=>h (by simp[e])
  have ih:=zdy p l fun e=>h (by simp[e])
  simp only[QY,List.map_cons,xX,List.cons_append,AV.s.injEq,h1,if_false]at ih ⊢
  rw[ih]
abbrev zrD:Cfg:=⟨fun n=>n==4||n==6||n==7,fun n=>n==1000002||n==2000014||n==15⟩
set_option maxHeartbeats 8000000 in
theorem zgl (R Q:Nat) (pth w:Txt) {r:zCT} {p:zY} (hp:p.OK R r) (hq:p.q=some Q) (hb:RB r) (hn:pth∉r.seen) :
  q7 Tryz.prog 101 [.av .ptr (.ptr R kQ []),.av .str (.s pth),.av .str (.s w),.av YR (.map (some Q))] (p.core R r) fun y H'=>y=.tup []∧z6 R (ZL pth w r) H':=by
 have her:=(show z6 R r (p.core R r) from⟨p,hp,rfl⟩).er
 obtain⟨r1,hr1⟩:∃r1:zCT,r1={ r with seen:=r.seen++[pth] }:=⟨_,rfl⟩
 have hsc:ZL pth w r=Q6 pth (.there (.scan w)) r1:=by rw[ZL,hr1]
 rw[hsc]
 have hb1:RB r1:=by rw[hr1];exact⟨hb.buf,hb.todo,hb.dat,hb.nk⟩
 have hQH:p.QH=[(Q,.map 9 4 (QY r.seen))]:=by
  rcases hp.seen with⟨h1,_⟩|⟨Q',h1,h2⟩
  ·rw[hq]at h1;cases h1
  ·rw[hq]at h1;cases h1;exact h2
 refine q7.nodup fun hnd=>?_
 have sy:∀ {a b:Nat},¬a=b→¬b=a:=fun h e=>h e.symm
 have hpm:(p.core R r).Perm ((Q,.map 9 4 (QY r.seen))::(R,qW p.ta (zS r.env) r.buf p.K r.asks r.waits r.over)::(p.K,.map 9 33 (knE r.known))::(p.TA++p.S)):=by
  refine List.perm_iff_count.2 fun a=>?_
  simp only[zY.core,hQH,List.count_append,List.count_cons,List.count_nil]
  omega
 refine q7.sub (R:=fun y H'=>y=.tup []∧∃H2,Ab.HSub H2 H'∧z6 R (Q6 pth (.there (.scan w)) r1) H2) ?_ fun y H' ⟨h1,H2,h2,h3⟩ _=>⟨H2,h2,h1,h3⟩
 refine q7.perm hpm ?_
 have hnd2:=((hpm.map Prod.fst).nodup_iff).1 hnd
 refine zov Tryz.func101 zrD fun imm0 w0=>?_
 simp (disch:=omega) [zz]
 intro b4 m1 m2 m3 m4 m5 b6 o0 o1 o2 o3 o4 o5 b7 q6 q0 q1 q2 q3 q4 q5
 have m1':=sy m1;have m2':=sy m2;have m3':=sy m3;have o0':=sy o0;have o1':=sy o1;have o2':=sy o2;have o3':=sy o3;have q6':=sy q6;have q0':=sy q0;have q1':=sy q1;have q2':=sy q2;have q3':=sy q3
 have hmp:=zdy pth r.seen hn
 simp (disch:=omega) [zz,m1,m2,m3,m1',m2',m3',o0,o1,o2,o3,o0',o1',o2',o3',q6,q0,q1,q2,q3,q6',q0',q1',q2',q3',hmp]
 obtain⟨H1,hH1⟩:∃H1:q8,H1=(b7,JU Q)::(b6,zF w)::(b4,zA R)::(Q,.map 9 4 (QY (r.seen++[pth])))::(R,qW p.ta (zS r.env) r.buf p.K r.asks r.waits r.over)::(p.K,.map 9 33 (knE r.known))::(p.TA++p.S):=⟨_,rfl⟩
 refine jW.ofK [0,1,2,3,4,5] [0,1] [b4] (by kernel_rfl) ?_
 simp (disch:=omega) [zz,o0,o0',q0,q0',q6,q6']
 (repeat with_reducible refine om ?_)
 obtain⟨tv,htv⟩:∃tv:AV,tv=.fn 136 [.ptr b4 .ptr [],.ptr b6 .str [],.ptr b7 YR []]:=⟨_,rfl⟩
 refine qE (R:=fun y H'=>∃br bt,y=.av .func (.fn 135 [.ptr br .ptr [],.ptr bt .func []])∧H'=[(bt,.var .func tv),(br,zA R)]) [] H1 (by rw[hH1];simp[JU,zF,zA]) rfl (by simp[qQ]) (by simp) ?_ ?_
 ·have:=zdh R tv (by rw[htv];rfl) (by rw[htv];rfl)
  rw[←htv]
  simpa[TV.er,AV.er,htv]using this
 rintro y H' ⟨br,bt,rfl,rfl⟩ hnd3
 refine⟨_,HSub.refl _,?_⟩
 rw[hH1]at hnd3 ⊢
 simp only[q8.keys,List.map_append,List.map_cons,List.map_nil,List.cons_append,List.nil_append,List.nodup_cons,List.mem_cons,not_or]at hnd3
 obtain⟨⟨_,_,_,g1,_⟩,⟨_,_,g2,_⟩,_⟩:=hnd3
 have g1':=sy g1;have g2':=sy g2
 simp (disch:=omega) [zz,XC,g1,g1',g2,g2',o0,o0',q0,q0',q6,q6',JU,zF,zA]
 (repeat with_reducible refine om ?_)
 obtain⟨p2,hp2e⟩:∃p2:zY,p2={ p with QH:=[(Q,.map 9 4 (QY (r.seen++[pth])))],S:=(bt,yE tv)::(br,zA R)::(b7,JU Q)::(b6,zF w)::(b4,zA R)::p.S }:=⟨_,rfl⟩
 have hp2:p2.OK R r1:=by
  rw[hp2e,hr1]
  refine⟨hp.todo,.inr ⟨Q,hq,rfl⟩,?_,?_⟩
  ·simp only[q8.er_cons,hp.box,zF,yE,zA,JU,HObj.er_var,AV.erk,htv];rfl
  ·exact hp.tds.mono fun z hz=>by simp[hz]
 have hq2:p2.q=some Q:=by rw[hp2e];exact hq
 have hco:UX R p2.q p2.S (.there (.scan w)) (.fn 135 [.ptr br .ptr [],.ptr bt .func []]):=by
  rw[hp2e]
  exact⟨br,bt,tv,rfl,by simp,by simp,Q,b4,b6,b7,hq,htv,by simp,by simp,by simp⟩
 have hask:=zey R pth (.there (.scan w)) _ hp2 hco hb1
 have her2:=(show z6 R r1 (p2.core R r1) from⟨p2,hp2,rfl⟩).er
 refine qE (R:=fun y H'=>y=.tup []∧z6 R (Q6 pth (.there (.scan w)) r1) H') (p2.core R r1) [] ?_ rfl (by simp[qQ]) (by simp) ?_ ?_
 ·rw[hp2e,hr1]
  refine List.perm_iff_count.2 fun a=>?_
  simp only[zY.core,List.count_append,List.count_cons,List.count_nil,zF,yE,zA,JU]
  omega
 ·rw[her2]
  simpa[TV.er,AV.er]using hask
 rintro y H' ⟨rfl,hh⟩ _
 refine⟨H',by simpa using HSub.refl _,?_⟩
 have hhe:=hh.er
 simp (disch:=omega) [zz,Tryz.f101,hhe]
 exact⟨H',HSub.refl _,hh⟩
abbrev zoZ:Cfg:=⟨fun _=>false,fun n=>n==10⟩
theorem zmN (R bt br bp:Nat) (k:CoV) (kv:AV) (pth:Txt) {r:zCT} {p:zY} (hp:p.OK R r) (hbt:(bt,yE kv)∈p.S) (hbr:(br,zA R)∈p.S) (hbp:(bp,zF pth)∈p.S) (hk:UX R p.q p.S k kv) (hb:RB r) :
  q7 Tryz.prog 134 [.av .ptr (.ptr bt .func []),.av .ptr (.ptr br .ptr []),.av .ptr (.ptr bp .str [])] (p.core R r) fun y H'=>y=.tup []∧z6 R (coR k ((zQ r.known pth).getD kn0) r) H':=by
 have hH:z6 R r (p.core R r):=⟨p,hp,rfl⟩
 have her:=hH.er
 obtain⟨hk1,hk2⟩:=hk.er
 have hxl:((zQ r.known pth).getD kn0).is=true→((zQ r.known pth).getD kn0).data.length≤1000000:=by
  cases hf:zQ r.known pth with
  | none=>simp[kn0]
  | some x=>exact hb.dat x (dY hf)
 have hco:=zn6 R ((zQ r.known pth).getD kn0) hp hk hb.buf hxl hb.todo
 have hmf:=X6 pth r.known
 refine q7.nodup fun hnd=>?_
 obtain⟨n1,n2⟩:=zY.KR hnd
 have mk:∀ {x},x∈p.S→x∈p.core R r:=fun h=>zY.memS h
 have e1:bt≠br:=Y4 hnd (mk hbt) (mk hbr) (by simp[yE,zA])
 have e2:bt≠bp:=Y4 hnd (mk hbt) (mk hbp) (by simp[yE,zF])
 have e3:br≠bp:=Y4 hnd (mk hbr) (mk hbp) (by simp[zA,zF])
 obtain⟨rest,hpm⟩:=znf hbt hbr hbp e1 e2 e3
 have hpm2:(p.core R r).Perm ((bt,yE kv)::(br,zA R)::(bp,zF pth)::(R,qW p.ta (zS r.env) r.buf p.K r.asks r.waits r.over)::(p.K,.map 9 33 (knE r.known))::(p.TA++(p.QH++rest))):=by
  refine List.perm_iff_count.2 fun a=>?_
  have:=hpm.count_eq a
  simp only[zY.core,List.count_append,List.count_cons]at this ⊢
  omega
 have hnd2:=((hpm2.map Prod.fst).nodup_iff).1 hnd
 simp only[List.map_cons,List.nodup_cons,List.mem_cons,not_or]at hnd2
 obtain⟨⟨g1,g2,g3,g4,_⟩,⟨g5,g6,g7,_⟩,⟨g8,g9,_⟩,⟨g10,_⟩,_⟩:=hnd2
 have sy:∀ {a b:Nat},¬a=b→¬b=a:=fun h e=>h e.symm
 have g1':=sy g1;have g2':=sy g2;have g3':=sy g3;have g4':=sy g4;have g5':=sy g5;have g6':=sy g6;have g7':=sy g7;have g8':=sy g8;have g9':=sy g9;have g10':=sy g10
 have hpm3:=hpm2.symm
 refine q7.sub (R:=fun y H'=>y=.tup []∧∃H2,Ab.HSub H2 H'∧z6 R (coR k ((zQ r.known pth).getD kn0) r) H2) ?_ fun y H' ⟨h1,H2,h2,h3⟩ _=>⟨H2,h2,h1,h3⟩
 refine q7.perm hpm2 ?_
 have fin:∀y H',(y=TV.tup []∧z6 R (coR k ((zQ r.known pth).getD kn0) r) H')→True:=fun _ _ _=>trivial
 cases hf:zQ r.known pth with
 | none =>
  rw[hf]at hmf hco
  rw[Option.map_none]at hmf
  refine zov Tryz.func134 zoZ fun imm0 w0=>?_
  simp (disch:=omega) [zz,yE,zA,zF,qW,hmf,g1,g2,g3,g4,g5,g6,g7,g8,g9,g10,g1',g2',g3',g4',g5',g6',g7',g8',g9',g10']
  (repeat with_reducible refine om ?_)
  refine ZG (R:=fun y H'=>y=.tup []∧z6 R (coR k kn0 r) H') (p.core R r) [] (by simpa[yE,zA,zF,qW]using hpm3) her (by simp[qQ]) (by simpa[kn0,zH]using hco) ?_
  rintro y H' ⟨rfl,hh⟩ _
  refine⟨H',by simpa using HSub.refl _,?_⟩
  have hhe:=hh.er
  simp (disch:=omega) [zz,Tryz.f134,hhe]
  exact⟨H',HSub.refl _,hh⟩
 | some x =>
  rw[hf]at hmf hco
  rw[Option.map_some]at hmf
  refine zov Tryz.func134 zoZ fun imm0 w0=>?_
  simp (disch:=omega) [zz,yE,zA,zF,qW,hmf,g1,g2,g3,g4,g5,g6,g7,g8,g9,g10,g1',g2',g3',g4',g5',g6',g7',g8',g9',g10']
  (repeat with_reducible refine om ?_)
  refine ZG (R:=fun y H'=>y=.tup []∧z6 R (coR k x r) H') (p.core R r) [] (by simpa[yE,zA,zF,qW]using hpm3) her (by simp[qQ]) (by simpa using hco) ?_
  rintro y H' ⟨rfl,hh⟩ _
  refine⟨H',by simpa using HSub.refl _,?_⟩
  have hhe:=hh.er
  simp (disch:=omega) [zz,Tryz.f134,hhe]
  exact⟨H',HSub.refl _,hh⟩
end Go.Proofs.YtcgpcfcbienapaaGreatDoor
end
