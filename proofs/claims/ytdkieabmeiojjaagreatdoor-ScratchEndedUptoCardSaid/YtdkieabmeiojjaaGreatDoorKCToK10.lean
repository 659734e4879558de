/- A tool that goes on: a file's lines are to be scanned. No condition. -/
import Derived.Test.YtdkieabmeiojjaaGreatDoorP18ToKBs
set_option linter.unusedSimpArgs false
set_option linter.unusedVariables false
set_option linter.unusedSectionVars false
set_option maxHeartbeats 64000000
set_option maxRecDepth 100000
namespace Go.Proofs.YtdkieabmeiojjaaGreatDoor
open Go Go.Ab
open Classical
section
variable [Sel] [SelPow] [SelMax]
theorem dU (l:Txt) (hl:l.length<=1000000):PC Tryz.prog 140 [.av .str (.s l)] (.av (.slice 9) (.sl .no (strs (qU l)))) :=
 cQ.freeze laid (by simp) (gW l hl)
theorem X9 {a b c:q8} (h1:Ab.HSub a b) (h2:Ab.HSub b c):Ab.HSub a c:=by
 obtain⟨l,p1,s1⟩:=h1
 obtain⟨m,p2,s2⟩:=h2
 obtain⟨e,he⟩:=s2.exists_perm_append
 exact⟨l++e,p2.trans (he.trans (p1.append_right e)),s1.trans (List.sublist_append_left _ _)⟩
theorem Q7 (d:DoV):(jA d).erk=jA d:=rfl
theorem JK.cons {v:AV} {j:List AV} (hv:v.erk=v) (h:JK j):JK (v::j):=by
 unfold JK at *;rw[AV.erks_eq]at *;rw[List.map_cons,h,hv]
theorem JK.tail {j:List AV} (h:JK j):JK j.tail:=by rw[<-List.drop_one];exact h.drop 1
def wN (r:qG) (l:List TdV):qG:={ r with todo:=r.todo++l }
theorem yJ.one {R:Nat} {q:Option Nat} {S:q8} {ts:List TdV} {fs:List AV} {t:TdV} {v:AV} (h:yJ R q S ts fs) (h1:PV R q S t v):yJ R q S (ts++[t]) (fs++[v]):=h.app (.cons h1 .nil)
abbrev zjg:Cfg:=⟨fun n=>n==6,fun n=>n==1000002||n==2000019||n==21⟩
theorem zl6 (R Q br bw bs:Nat) (w d:Txt) {r:qG} {p:zP} (hp:p.OK R r) (hq:p.q=some Q) (hbr:(br,qV R)∈p.S) (hbw:(bw,qS w)∈p.S) (hbs:(bs,K7 Q)∈p.S) (hd:d.length<=1000000) (htd:r.todo.length<=1000000000) :
  q7 Tryz.prog 173 [.av .str (.s d),.av .ptr (.ptr br .ptr []),.av .ptr (.ptr bw .str []),.av .ptr (.ptr bs xL [])] (p.core R r) fun y H'=>y=.tup []/\qQ R (thR (.scan w) d r) H':=by
 have hll:=ZU d
 obtain⟨ls,hls⟩:∃ls,ls=qU d:=⟨_,rfl⟩
 have hpc:=dU d hd
 rw[<-hls]at hll hpc
 refine q7.sub (R:=fun y H'=>y=.tup []/\∃H2,Ab.HSub H2 H'/\qQ R (thR (.scan w) d r) H2) ?_ fun y H' ⟨h1,H2,h2,h3⟩ _=>⟨H2,h2,h1,h3⟩
 refine zov Tryz.func173 zjg fun imm0 w0=>?_
 simp (disch:=omega) [zz]
 refine zcv hpc ?_
 simp (disch:=omega) [zz]
 refine qD (R:=fun r' H'=>∃c,r'=.av .func (.fn 194 [.ptr c zfc []])/\H'=[(c,bsO ls)]) [] (p.core R r) (by simp) rfl (by simp[qE]) (by simp) ?_ ?_
 ·simpa[TV.er,AV.er]using zjG ls
 rintro r' H' ⟨c,rfl,rfl⟩ hnd2
 refine⟨(c,bsO ls)::p.core R r,HSub.refl _,?_⟩
 simp (disch:=omega) [zz]
 refine AT.absE (fun E=>E 1=.av .ptr (.ptr br .ptr [])/\E 2=.av .ptr (.ptr bw .str [])/\E 3=.av .ptr (.ptr bs xL [])/\E 9=.av .func (.fn 194 [.ptr c zfc []])) (by simp) ?_
 rintro E ⟨hE1,hE2,hE3,hE9⟩
 refine AT.range (gf:=194) rfl (by simpa using hE9) rfl (by simp) ?_
 intro y D rr i0 w1 hy hrec hready hpend hpar has hbo
 obtain⟨G,hG⟩:∃G:Nat->q8->Prop,G=fun k H=>∃p':zP,p'.OK R (wN r ((ls.reverse.take k).map fun s=>.line s w))/\p'.q=some Q/\(br,qV R)∈p'.S/\(bw,qS w)∈p'.S/\(bs,K7 Q)∈p'.S/\H=(y,.lrec rr i0 w1)::p'.core R (wN r ((ls.reverse.take k).map fun s=>.line s w)):=⟨_,rfl⟩
 refine⟨(c,bsO ls)::(y,.lrec rr i0 w1)::p.core R r,[],fun t H'=>t=.tup []/\∃H1,G ls.length H1/\H'=(c,bsO ls)::H1,?_,?_,?_⟩
 ·rw[List.append_nil]
  exact List.Perm.swap _ _ _
 ·have her:=(show qQ R r (p.core R r) from⟨p,hp,rfl⟩).er
  have he:q8.er ((c,bsO ls)::(y,.lrec rr i0 w1)::p.core R r)=(c,bsO ls)::(y,.lrec rr i0 w1)::p.core R r:=by
   rw[q8.er_cons,q8.er_cons,her,zlQ];rfl
  rw[he]
  refine zhY (G:=G) y c ls (by omega) ?_ ?_ _ ?_
  ·rw[hG]
   rintro k H ⟨p',hp',_,_,_,_,rfl⟩
   rw[q8.er_cons,(show qQ R _ (p'.core R _) from⟨p',hp',rfl⟩).er];rfl
  ·rw[hG]
   rintro k hk H ⟨p',hp',hq',hbr',hbw',hbs',rfl⟩
   obtain⟨x,hx⟩:∃x,x=ls[ls.length-1-k]'(by omega):=⟨_,rfl⟩
   obtain⟨r1,hr1⟩:∃r1,r1=wN r ((ls.reverse.take k).map fun s=>.line s w):=⟨_,rfl⟩
   have hnx:wN r ((ls.reverse.take (k+1)).map fun s=>.line s w)=wN r1 [.line x w]:=by
    rw[List.take_succ_eq_append_getElem (by simpa using hk),List.getElem_reverse,hr1,hx]
    simp[wN]
   have hr1t:r1.todo.length<=2000000000:=by
    rw[hr1]
    simp[wN]
    omega
   rw[<-hr1]at hp' |-
   rw[<-hx]
   refine zf7 (R:=fun rrr H'=>rrr=.av .bool (.b true)/\∃p'':zP,p''.OK R (wN r1 [.line x w])/\p''.q=some Q/\(br,qV R)∈p''.S/\(bw,qS w)∈p''.S/\(bs,K7 Q)∈p''.S/\Ab.HSub ((y,.lrec rr i0 w1)::p''.core R (wN r1 [.line x w])) H') ?_ (fun rrr H' ⟨e1,p'',e2,e3,e4,e5,e6,e7⟩ _=>⟨_,e7,e1,p'',by rw[hnx];exact e2,e3,e4,e5,e6,by rw[hnx]⟩)
   refine zef fun hnd=>?_
   obtain⟨S2,hS2⟩:=P0 hbr'
   obtain⟨rest,hrest⟩:∃rest:q8,rest=(p'.K,.map 9 74 (knE r1.known))::(p'.QH++S2):=⟨_,rfl⟩
   have hp1:((y,HObj.lrec rr i0 w1)::p'.core R r1).Perm ((y,.lrec rr i0 w1)::(R,qJ p'.ta (zO r1.env) r1.buf p'.K r1.asks r1.waits r1.over)::(br,qV R)::(p'.TA++rest)):=by
    refine List.perm_iff_count.2 fun a=>?_
    have:=hS2.count_eq a
    rw[hrest]
    simp only[zP.core,List.count_append,List.count_cons]at this |-
    omega
   have hnd1:(q8.keys ((y,HObj.lrec rr i0 w1)::(R,qJ p'.ta (zO r1.env) r1.buf p'.K r1.asks r1.waits r1.over)::(br,qV R)::(p'.TA++rest))).Nodup:=by
    have h1:(((y,HObj.lrec rr i0 w1)::p'.core R r1).map Prod.fst).Nodup:=hnd
    exact(hp1.map Prod.fst).nodup_iff.1 h1
   have hrer:rest.er=rest:=by
    have h1:=VB hp1 (by rw[q8.er_cons,(show qQ R _ (p'.core R _) from⟨p',hp',rfl⟩).er];rfl)
    exact YK.2 fun z hz=>YK.1 h1 z (by simp[hz])
   refine zh3 hp1 ?_
   refine YC.of_round (l:=y) hrec hready (by rw[hpar];rfl) (by rw[hpar];simp) (fun imm wd=>?_)
   rw[has,hbo,hpar]
   have hrl:∀(pp:Array Nat) (a b:Code),pp=rr.params->a=rr.assign->b=rr.body->({ state:=.ready,pending:=none,fn:=rr.fn,tmps:=rr.tmps,params:=pp,assign:=a,body:=b,defers:=rr.defers }:Loop)=rr:=by
    rintro _ _ _ rfl rfl rfl;exact UC hready hpend
   have her:∀r',(HObj.lrec r' i0 w1).er=HObj.lrec r' i0 w1:=fun _=>rfl
   have hbwk:∀b6:Nat,¬b6=br->¬b6∈rest.keys->b6≠bw:=by
    intro b6 h1 h2 e
    rw[<-e]at hbw'
    rcases List.mem_cons.1 (hS2.mem_iff.1 hbw')with e|h
    ·exact h1 (congrArg Prod.fst e)
    ·exact h2 (List.mem_map.2 ⟨(b6,qS w),by rw[hrest];simp[h],rfl⟩)
   have fin:∀(b6:Nat) (ta':AV) (TA' H':q8),zaV (p'.fs++[.fn 175 [.ptr b6 .str [],.ptr bw .str [],.ptr br .ptr [],.ptr bs xL []]]) ta' TA'->b6≠bw->
     Ab.HSub ((b6,qS x)::(y,.lrec rr i0 w1)::(R,qJ ta' (zO r1.env) r1.buf p'.K r1.asks r1.waits r1.over)::(br,qV R)::(TA'++rest)) H'->
     ∃p'':zP,p''.OK R (wN r1 [.line x w])/\p''.q=some Q/\(br,qV R)∈p''.S/\(bw,qS w)∈p''.S/\(bs,K7 Q)∈p''.S/\Ab.HSub ((y,.lrec rr i0 w1)::p''.core R (wN r1 [.line x w])) H':=by
    intro b6 ta' TA' H' hT hne hsub
    refine⟨{ p' with TA:=TA',S:=(b6,qS x)::p'.S,fs:=p'.fs++[.fn 175 [.ptr b6 .str [],.ptr bw .str [],.ptr br .ptr [],.ptr bs xL []]],ta:=ta' },⟨hT,hp'.seen,?_,?_⟩,hq',List.mem_cons_of_mem _ hbr',List.mem_cons_of_mem _ hbw',List.mem_cons_of_mem _ hbs',?_⟩
    ·show q8.er ((b6,qS x)::p'.S)=_
     rw[q8.er_cons,hp'.box]
     simp[qS,HObj.er_var,AV.erk]
    ·exact(hp'.tds.mono fun z hz=>List.mem_cons_of_mem _ hz).one ⟨Q,b6,bw,br,bs,hq',rfl,hne,List.mem_cons_self,List.mem_cons_of_mem _ hbw',List.mem_cons_of_mem _ hbr',List.mem_cons_of_mem _ hbs'⟩
    ·refine X9 (HSub.of_perm ?_) hsub
     refine List.perm_iff_count.2 fun a=>?_
     have:=hS2.count_eq a
     rw[hrest]
     simp only[zP.core,wN,List.count_append,List.count_cons]at this |-
     omega
   rcases hp'.todo with⟨hfs,hta,hTA⟩|⟨T,cap,j,hj,hta,hcap,hTA⟩
   ·rw[hTA]at hnd1 |-
    rw[hta]
    rw[hfs]at fin
    simp at hnd1
    obtain⟨⟨n1,n2,n3⟩,⟨n4,n5⟩,n6,n7⟩:=hnd1
    have n1':¬R=y:=fun e=>n1 e.symm
    have n2':¬br=y:=fun e=>n2 e.symm
    have n4':¬br=R:=fun e=>n4 e.symm
    refine zrd zjg ?_
    simp (disch:=omega) [zz,Z6,yY,VZ,hE1,hE2,hE3]
    intro b6 m1 m2 m3 m4
    have m1':¬y=b6:=fun e=>m1 e.symm
    have m2':¬R=b6:=fun e=>m2 e.symm
    have m3':¬br=b6:=fun e=>m3 e.symm
    refine⟨by assumption,?_⟩
    refine zrd zjg ?_
    simp (disch:=omega) [zz]
    refine jO.ofK [0,1,2,3,4,5,6,7,8,9,10] [0] [br] (by kernel_rfl) ?_
    simp (disch:=omega) [zz,hE1,hE2,hE3,n1,n2,n4,n1',n2',n4',m1,m2,m3,m1',m2',m3',qV,qJ]
    (repeat with_reducible refine om ?_)
    intro b cap c1 c2 c3 c4 c5 c6
    have c1':¬b6=b:=fun e=>c1 e.symm
    have c2':¬y=b:=fun e=>c2 e.symm
    have c3':¬R=b:=fun e=>c3 e.symm
    have c4':¬br=b:=fun e=>c4 e.symm
    refine⟨c4,?_⟩
    (repeat with_reducible refine om ?_)
    simp (disch:=omega) [zz,n1,n2,n4,n1',n2',n4',m1,m2,m3,m1',m2',m3',c1,c2,c3,c4,c1',c2',c3',c4']
    simp (disch:=omega) [zz,WY,UR,hrer,zH,Q7,n1,n2,n4,n1',n2',n4',m1,m2,m3,m1',m2',m3',c1,c2,c3,c4,c1',c2',c3',c4']
    rw[her,hrl _ _ _ hpar.symm has.symm hbo.symm,show AV.erks (List.replicate (cap-1) AV.nilfn)=_ from JK.rep rfl _]
    refine fin b6 (.msl b 1 0 1 cap) [(b,.var (.arr cap 1) (.agg (_::List.replicate (cap-1) .nilfn)))] _ (.inr ⟨b,cap,List.replicate (cap-1) .nilfn,JK.rep rfl _,rfl,by simp;omega,rfl⟩) (hbwk b6 m3 m4) (HSub.of_perm ?_)
    refine List.perm_iff_count.2 fun a=>?_
    simp only[List.count_append,List.count_cons,List.count_nil,qS,qV,qJ]
    omega
   ·rw[hTA]at hnd1 |-
    rw[hta]
    simp at hnd1
    obtain⟨⟨n1,n2,n8,n3⟩,⟨n4,n9,n5⟩,⟨n10,n6⟩,n11,n7⟩:=hnd1
    have n1':¬R=y:=fun e=>n1 e.symm
    have n2':¬br=y:=fun e=>n2 e.symm
    have n4':¬br=R:=fun e=>n4 e.symm
    have n8':¬T=y:=fun e=>n8 e.symm
    have n9':¬T=R:=fun e=>n9 e.symm
    have n10':¬T=br:=fun e=>n10 e.symm
    have hfl:=hp'.tds.len
    have hcapn:(0:Nat)+cap=cap:=by omega
    obtain⟨fs,hfs⟩:∃fs,fs=p'.fs:=⟨_,rfl⟩
    rw[<-hfs]at fin hfl hcap |-
    have hjfs:=hp'.tds.jk
    rw[<-hfs]at hjfs
    refine zrd zjg ?_
    simp (disch:=omega) [zz,Z6,yY,VZ,hE1,hE2,hE3]
    intro b6 m1 m2 m3 m5 m4
    have m1':¬y=b6:=fun e=>m1 e.symm
    have m2':¬R=b6:=fun e=>m2 e.symm
    have m3':¬br=b6:=fun e=>m3 e.symm
    have m5':¬T=b6:=fun e=>m5 e.symm
    refine⟨by assumption,?_⟩
    refine zrd zjg ?_
    simp (disch:=omega) [zz]
    refine jO.ofK [0,1,2,3,4,5,6,7,8,9,10] [0] [br] (by kernel_rfl) ?_
    simp (disch:=omega) [zz,hE1,hE2,hE3,n1,n2,n4,n1',n2',n4',n8,n9,n10,n8',n9',n10',m1,m2,m3,m1',m2',m3',m5,m5',qV,qJ]
    (repeat with_reducible refine om ?_)
    refine⟨fun hroom=>?_,fun hgrow=>?_⟩
    ·(repeat with_reducible refine om ?_)
     simp (disch:=omega) [zz,WY,UR,hrer,zH,Q7,n1,n2,n4,n1',n2',n4',n8,n9,n10,n8',n9',n10',m1,m2,m3,m1',m2',m3',m5,m5']
     rw[her,hrl _ _ _ hpar.symm has.symm hbo.symm]
     rw[show AV.erks (fs++AV.fn 175 [.ptr b6 .str [],.ptr bw .str [],.ptr br .ptr [],.ptr bs xL []]::j.tail)=_ from hjfs.app (JK.cons rfl hj.tail),List.append_cons]
     refine fin b6 (.msl T 1 0 (fs.length+1) cap) [(T,.var (.arr cap 1) (.agg (fs++[_]++j.tail)))] _ (.inr ⟨T,cap,j.tail,hj.tail,by simp,by simp;omega,rfl⟩) (hbwk b6 m3 m4) (HSub.of_perm ?_)
     refine List.perm_iff_count.2 fun a=>?_
     simp only[List.count_append,List.count_cons,List.count_nil,qS,qV,qJ]
     omega
    ·intro b cap2 c1 c2 c3 c4 c7 c5 c6
     have c1':¬b6=b:=fun e=>c1 e.symm
     have c2':¬y=b:=fun e=>c2 e.symm
     have c3':¬R=b:=fun e=>c3 e.symm
     have c4':¬br=b:=fun e=>c4 e.symm
     have c7':¬T=b:=fun e=>c7 e.symm
     refine⟨c4,?_⟩
     (repeat with_reducible refine om ?_)
     simp (disch:=omega) [zz,n1,n2,n4,n1',n2',n4',n8,n9,n10,n8',n9',n10',m1,m2,m3,m1',m2',m3',m5,m5',c1,c2,c3,c4,c7,c1',c2',c3',c4',c7']
     simp (disch:=omega) [zz,WY,UR,hrer,zH,Q7,n1,n2,n4,n1',n2',n4',n8,n9,n10,n8',n9',n10',m1,m2,m3,m1',m2',m3',m5,m5',c1,c2,c3,c4,c7,c1',c2',c3',c4',c7']
     rw[her,hrl _ _ _ hpar.symm has.symm hbo.symm]
     rw[show AV.erks (fs++AV.fn 175 [.ptr b6 .str [],.ptr bw .str [],.ptr br .ptr [],.ptr bs xL []]::List.replicate (cap2-(fs.length+1)) AV.nilfn)=_ from hjfs.app (JK.cons rfl (JK.rep rfl _)),List.append_cons]
     refine fin b6 (.msl b 1 0 (fs.length+1) cap2) [(b,.var (.arr cap2 1) (.agg (fs++[_]++List.replicate (cap2-(fs.length+1)) .nilfn)))] _ (.inr ⟨b,cap2,_,JK.rep rfl _,by simp,by simp;omega,rfl⟩) (hbwk b6 m3 m4) ⟨(T,.var (.arr cap 1) (.agg (AV.erks (fs++j))))::_,?_,(List.Sublist.refl _).cons _⟩
     refine List.perm_iff_count.2 fun a=>?_
     simp only[List.count_append,List.count_cons,List.count_nil,qS,qV,qJ]
     omega
  ·rw[hG]
   exact⟨p,by simpa[wN]using hp,hq,hbr,hbw,hbs,by simp[wN]⟩
 ·rintro t H' ⟨rfl,H1,hg,rfl⟩ hnd3
  rw[hG]at hg
  obtain⟨p',hp',hq',hbr',hbw',hbs',rfl⟩:=hg
  refine⟨rr,(c,bsO ls)::p'.core R _,HSub.of_perm (by rw[List.append_nil];exact List.Perm.swap _ _ _),by rw[hready];simp,?_⟩
  rw[hpend]
  have her:=(show qQ R _ (p'.core R _) from⟨p',hp',rfl⟩).er
  have hfin:wN r ((ls.reverse.take ls.length).map fun s=>.line s w)=thR (.scan w) d r:=by
   rw[List.take_of_length_le (by simp)]
   simp[thR,wN,hls]
  rw[hfin]at her hp'
  rw[hfin]
  simp (disch:=omega) [zz,CY,Tryz.f173,her]
  exact⟨p'.core R (thR (.scan w) d r),HSub.of_sub ((List.Sublist.refl _).cons _),p',hp',rfl⟩
end
section
variable [Sel]
def VC1 (v:AV) (args:List TV) (H:q8) (R:TV->q8->Prop):Prop:=match v with
 | .fn g caps=>∃cs,caps.mapM QR=some cs/\qM Tryz.prog g=true/\q7 Tryz.prog g ((args++cs).map TV.er) H R
 | .bm g fs=>∃cs,fs.mapM QR=some cs/\qM Tryz.prog g=true/\q7 Tryz.prog g ((cs++args).map TV.er) H R
 | _=>False
theorem Q6 {s:St} {v:AV} {args:List TV} {dst:Option Nat} {K:St->Prop} {R:TV->q8->Prop} (Hs rest:q8) (hp:s.H.Perm (Hs++rest)) (he:Hs.er=Hs) (ha:args.all qE=true) (h:VC1 v args Hs R)
  (hk:∀r H',R r H'->(H'++rest).keys.Nodup->∃H'',Ab.HSub H'' (H'++rest)/\K (({ s with H:=H'' }:St).put dst r)):Z9 Tryz.prog s (.av .func v) args dst K:=by
 unfold VC1 at h
 split at h
 ·obtain⟨cs,h1,h2,h3⟩:=h
  exact qD Hs rest hp h1 ha h2 (by rw[he];exact h3) hk
 ·obtain⟨cs,h1,h2,h3⟩:=h
  exact zky Hs rest hp h1 ha h2 (by rw[he];exact h3) hk
 ·exact h.elim
end
section
variable [Sel] [SelPow] [SelMax]
theorem zpU (R:Nat) (d:Txt) {t:ThV} {v:AV} {r:qG} {p:zP} (hp:p.OK R r) (ht:zdp R p.q p.S t v) (hb:r.buf.length<=1000000000) (hd:d.length<=1000000) (htd:r.todo.length<=1000000000) :
  VC1 v [.av .str (.s d)] (p.core R r) fun y H'=>y=.tup []/\qQ R (thR t d r) H':=by
 cases t with
 | add =>
  have hv:v=_:=ht
  rw[hv]
  exact⟨_,rfl,by simp,zl5 R d ⟨p,hp,rfl⟩ hb (by omega)⟩
 | scan w =>
  obtain⟨Q,br,bw,bs,hq,rfl,h1,h2,h3⟩:=ht
  exact⟨_,rfl,by simp,zl6 R Q br bw bs w d hp hq h1 h2 h3 hd htd⟩
theorem zmZ {R:Nat} {v:AV}:qV R≠yI v:=by simp[qV,yI]
theorem zhO (R br bt:Nat) (x:KnV) {t:ThV} {tv:AV} {r:qG} {p:zP} (hp:p.OK R r) (hbr:(br,qV R)∈p.S) (hbt:(bt,yI tv)∈p.S) (ht:zdp R p.q p.S t tv) (hb:r.buf.length<=1000000000) (hx:x.is=true->x.data.length<=1000000) (htd:r.todo.length<=1000000000) :
  q7 Tryz.prog 172 [.av (q9 Tryz.prog 74) (jD x),.av .ptr (.ptr br .ptr []),.av .ptr (.ptr bt .func [])] (p.core R r) fun y H'=>y=.tup []/\qQ R (coR (.there t) x r) H':=by
 have hH:qQ R r (p.core R r):=⟨p,hp,rfl⟩
 have hth:=fun h=>zpU R x.data hp ht hb (hx h) htd
 have her:=hH.er
 obtain⟨H,hHe⟩:∃H,H=p.core R r:=⟨_,rfl⟩
 have hm:(br,qV R)∈H:=hHe▸zP.memS hbr
 have hm2:(bt,yI tv)∈H:=hHe▸zP.memS hbt
 rw[<-hHe]at hH her hth |-
 refine q7.nodup fun hnd=>?_
 have hne:br≠bt:=YT hnd hm hm2 zmZ
 have hne':¬bt=br:=fun e=>hne e.symm
 obtain⟨rest,hpm⟩:=zkQ hm hm2 hne
 have hre:=VB hpm her
 refine q7.sub (R:=fun y H'=>y=.tup []/\∃H2,Ab.HSub H2 H'/\qQ R (coR (.there t) x r) H2) ?_ fun y H' ⟨h1,H2,h2,h3⟩ _=>⟨H2,h2,h1,h3⟩
 refine q7.perm hpm ?_
 refine zov Tryz.func172 cf0 fun imm0 w0=>?_
 simp (disch:=omega) [zz,jD]
 cases hxi:x.is
 ·simp (disch:=omega) [zz,hxi,qV,yI,hne,hne']
  refine qD (R:=fun y H'=>y=.tup []/\qQ R (w6 10 r) H') H [] (by simpa[qV,yI]using hpm.symm) rfl (by simp[qE]) (by simp) ?_ ?_
  ·rw[her]
   exact q7.args (zeP R 10 hH) (by simp[qR,coC,TV.er,AV.er])
  rintro y H' ⟨rfl,hh⟩ _
  refine⟨H',by simpa using HSub.refl _,?_⟩
  have hhe:=hh.er
  simp (disch:=omega) [zz,Tryz.f172,hhe,coR,hxi]
  exact⟨H',HSub.refl _,hh⟩
 ·simp (disch:=omega) [zz,hxi,qV,yI,hne,hne']
  refine Q6 (R:=fun y H'=>y=.tup []/\qQ R (thR t x.data r) H') H [] (by simpa[qV,yI]using hpm.symm) her (by simp[qE]) (hth hxi) ?_
  rintro y H' ⟨rfl,hh⟩ _
  refine⟨H',by simpa using HSub.refl _,?_⟩
  have hhe:=hh.er
  simp (disch:=omega) [zz,Tryz.f172,hhe,coR,hxi]
  exact⟨H',HSub.refl _,hh⟩
theorem znN (R:Nat) (x:KnV) {k:CoV} {v:AV} {r:qG} {p:zP} (hp:p.OK R r) (hk:V3 R p.q p.S k v) (hb:r.buf.length<=1000000000) (hx:x.is=true->x.data.length<=1000000) (htd:r.todo.length<=1000000000) :
  VC1 v [.av (q9 Tryz.prog 74) (jD x)] (p.core R r) fun y H'=>y=.tup []/\qQ R (coR k x r) H':=by
 have hxe:(TV.av (q9 Tryz.prog 74) (jD x)).er=.av (q9 Tryz.prog 74) (jD x):=by simp[TV.er,jD,AV.er,AV.ers]
 cases k with
 | there t =>
  obtain⟨br,bt,tv,rfl,h1,h2,h3⟩:=hk
  refine⟨[.av .ptr (.ptr br .ptr []),.av .ptr (.ptr bt .func [])],rfl,by simp,?_⟩
  have:=zhO R br bt x hp h1 h2 h3 hb hx htd
  simp only[List.cons_append,List.nil_append,List.map_cons,List.map_nil,hxe]
  exact this
 | tr =>
  obtain⟨br,rfl,h1⟩:=hk
  refine⟨[.av .ptr (.ptr br .ptr [])],rfl,by simp,?_⟩
  have:=zos R br x hp h1 hb (fun h=>by have:=hx h;omega)
  simp only[List.cons_append,List.nil_append,List.map_cons,List.map_nil,hxe]
  exact this
theorem uT (p:Txt):∀l:List KnV,wQ (.s p) (knE l)=(j3 l p).map jD
 | []=>rfl
 | k::l=>by
  have ih:=uT p l
  simp only[knE,List.map_cons,wQ,j3,List.find?_cons]at ih |-
  by_cases h:k.path=p
  ·simp[h]
  ·simp only[AV.s.injEq,h,if_false,decide_false]
   exact ih
theorem zP.KR {p:zP} {R:Nat} {r:qG} (h:(p.core R r).keys.Nodup):¬p.K=R/\¬R=p.K:=by
 have h1:(R::p.K::q8.keys (p.TA++(p.QH++p.S))).Nodup:=h
 rw[List.nodup_cons]at h1
 have:R≠p.K:=fun e=>h1.1 (e▸List.mem_cons_self)
 exact⟨fun e=>this e.symm,this⟩
theorem cP (x:KnV):(jD x).er=jD x/\(jD x).erk=jD x:=by simp[jD,AV.er,AV.ers,AV.erk,AV.erks]
theorem zec {a b c:q8} (h:Ab.HSub b c) (hp:b.Perm a):Ab.HSub a c:=X9 (HSub.of_perm hp) h
abbrev znE:Cfg:=⟨fun _=>false,fun n=>n==1000006||n==1000007⟩
theorem zhQ (R:Nat) (pth:Txt) (x:KnV) (k:CoV) (kv:AV) {r:qG} {p:zP} (hp:p.OK R r) (hk:V3 R p.q p.S k kv) (hf:j3 r.known pth=some x) (hb:r.buf.length<=1000000000) (hx:x.is=true->x.data.length<=1000000) (htd:r.todo.length<=1000000000) :
  q7 Tryz.prog 143 [.av .ptr (.ptr R kO []),.av .str (.s pth),.av .func kv] (p.core R r) fun y H'=>y=.tup []/\qQ R (yN pth k r) H':=by
 have her:=(show qQ R r (p.core R r) from⟨p,hp,rfl⟩).er
 obtain⟨hk1,hk2⟩:=hk.er
 have hmf:=uT pth r.known
 rw[hf,Option.map_some]at hmf
 have hask:yN pth k r=coR k x r:=by simp[yN,hf]
 have hco:=znN R x hp hk hb hx htd
 rw[hask]
 refine q7.nodup fun hnd=>?_
 obtain⟨n1,n2⟩:=zP.KR hnd
 obtain⟨xe1,xe2⟩:=cP x
 refine q7.sub (R:=fun y H'=>y=.tup []/\∃H2,Ab.HSub H2 H'/\qQ R (coR k x r) H2) ?_ fun y H' ⟨h1,H2,h2,h3⟩ _=>⟨H2,h2,h1,h3⟩
 refine zov Tryz.func143 znE fun imm0 w0=>?_
 simp (disch:=omega) [zz,zP.core,qJ,n1,n2,hmf,hk1,hk2,xe1,xe2]
 (repeat with_reducible refine om ?_)
 refine Q6 (R:=fun y H'=>y=.tup []/\qQ R (coR k x r) H') (p.core R r) [] (by simp[zP.core,qJ]) her (by simp[qE]) (by simpa using hco) ?_
 rintro y H' ⟨rfl,hh⟩ _
 refine⟨H',by simpa using HSub.refl _,?_⟩
 have hhe:=hh.er
 simp (disch:=omega) [zz,Tryz.f143,hhe]
 exact⟨H',HSub.refl _,hh⟩
theorem zjj (R:Nat) (pth:Txt) (k:CoV) (kv:AV) {r:qG} {p:zP} (hp:p.OK R r) (hk:V3 R p.q p.S k kv) (hf:j3 r.known pth=none) (hn:500<=r.known.length) (hn2:r.known.length<=1000000000) :
  q7 Tryz.prog 143 [.av .ptr (.ptr R kO []),.av .str (.s pth),.av .func kv] (p.core R r) fun y H'=>y=.tup []/\qQ R (yN pth k r) H':=by
 have her:=(show qQ R r (p.core R r) from⟨p,hp,rfl⟩).er
 obtain⟨hk1,hk2⟩:=hk.er
 have hmf:=uT pth r.known
 rw[hf,Option.map_none]at hmf
 have hask:yN pth k r=w6 6 r:=by simp[yN,hf,hn]
 rw[hask]
 have hkl:(knE r.known).length=r.known.length:=by simp[knE]
 have hge:(500:Int)<=r.known.length:=by omega
 refine q7.nodup fun hnd=>?_
 obtain⟨n1,n2⟩:=zP.KR hnd
 refine q7.sub (R:=fun y H'=>y=.tup []/\∃H2,Ab.HSub H2 H'/\qQ R (w6 6 r) H2) ?_ fun y H' ⟨h1,H2,h2,h3⟩ _=>⟨H2,h2,h1,h3⟩
 refine zov Tryz.func143 znE fun imm0 w0=>?_
 simp (disch:=omega) [zz,zP.core,qJ,n1,n2,hmf,hk1,hk2,hge,hkl]
 (repeat with_reducible refine om ?_)
 refine qD (R:=fun y H'=>y=.tup []/\qQ R (w6 6 r) H') (p.core R r) [] (by simp[zP.core,qJ]) rfl (by simp[qE]) (by simp) ?_ ?_
 ·rw[her]
  exact q7.args (zeP R 6 ⟨p,hp,rfl⟩) (by simp[qR,coC,TV.er,AV.er])
 rintro y H' ⟨rfl,hh⟩ _
 refine⟨H',by simpa using HSub.refl _,?_⟩
 have hhe:=hh.er
 simp (disch:=omega) [zz,Tryz.f143,hhe]
 exact⟨H',HSub.refl _,hh⟩
abbrev zq6:Cfg:=⟨fun n=>n==3||n==4||n==5,fun n=>n==1000006||n==2000033||n==45||n==1000007||n==2000043||n==35⟩
theorem zcu (l:List KnV):List.map (fun p:AV × AV=>(p.1.er,p.2.er)) (knE l)=knE l:=by
 have:=zjI l
 rw[HObj.er_map]at this
 exact(HObj.map.inj this).2.2
theorem zl9 (R:Nat) (pth:Txt) (k:CoV) (kv:AV) {r:qG} {p:zP} (hp:p.OK R r) (hk:V3 R p.q p.S k kv) (hf:j3 r.known pth=none) (hn:¬500<=r.known.length) (htd:r.todo.length<=1000000000) :
  q7 Tryz.prog 143 [.av .ptr (.ptr R kO []),.av .str (.s pth),.av .func kv] (p.core R r) fun y H'=>y=.tup []/\qQ R (yN pth k r) H':=by
 have her:=(show qQ R r (p.core R r) from⟨p,hp,rfl⟩).er
 obtain⟨hk1,hk2⟩:=hk.er
 have hmf:=uT pth r.known
 rw[hf,Option.map_none]at hmf
 have hkl:(knE r.known).length=r.known.length:=by simp[knE]
 obtain⟨r2,hr2⟩:∃r2:qG,r2={ r with asks:=pth,waits:=true,todo:=r.todo++[.ans k pth] }:=⟨_,rfl⟩
 have hask:yN pth k r=r2:=by simp[yN,hf,hn,hr2]
 rw[hask]
 have hge:¬(500:Int)<=r.known.length:=by omega
 refine q7.nodup fun hnd=>?_
 obtain⟨n1,n2⟩:=zP.KR hnd
 have fin:∀(b3 b4 b5:Nat) (ta':AV) (TA' H':q8),zaV (p.fs++[.fn 171 [.ptr b5 .func [],.ptr b3 .ptr [],.ptr b4 .str []]]) ta' TA'->
   Ab.HSub ((R,qJ ta' (zO r.env) r.buf p.K pth true r.over)::(p.K,.map 9 74 (knE r.known))::(b5,yI kv)::(b4,qS pth)::(b3,qV R)::(TA'++(p.QH++p.S))) H'->∃H2,Ab.HSub H2 H'/\qQ R r2 H2:=by
  intro b3 b4 b5 ta' TA' H' hT hsub
  refine⟨_,zec hsub ?_,{ p with TA:=TA',S:=(b5,yI kv)::(b4,qS pth)::(b3,qV R)::p.S,fs:=p.fs++[.fn 171 [.ptr b5 .func [],.ptr b3 .ptr [],.ptr b4 .str []]],ta:=ta' },⟨hT,by rw[hr2];exact hp.seen,?_,?_⟩,rfl⟩
  ·rw[hr2]
   refine List.perm_iff_count.2 fun a=>?_
   simp only[zP.core,List.count_append,List.count_cons]
   omega
  ·show q8.er ((b5,yI kv)::(b4,qS pth)::(b3,qV R)::p.S)=_
   simp only[q8.er_cons,hp.box,qS,yI,qV,HObj.er_var,AV.erk,hk2]
  ·rw[hr2]
   have hm:∀z∈p.S,z∈(b5,yI kv)::(b4,qS pth)::(b3,qV R)::p.S:=fun z hz=>by simp[hz]
   exact(hp.tds.mono hm).one ⟨b5,b3,b4,kv,rfl,by simp,by simp,by simp,hk.mono hm⟩
 refine q7.sub (R:=fun y H'=>y=.tup []/\∃H2,Ab.HSub H2 H'/\qQ R r2 H2) ?_ fun y H' ⟨h1,H2,h2,h3⟩ _=>⟨H2,h2,h1,h3⟩
 refine zov Tryz.func143 zq6 fun imm0 w0=>?_
 (simp (maxSteps:=2000000) (disch:=first|omega|assumption) [zz,-List.reduceReplicate,zP.core,qJ])
 intro b3 m1 m2 m3 m4 m5 b4 o0 o1 o2 o3 o4 o5 b5 q6 q0 q1 q2 q3 q4 q5
 have sy:∀ {a b:Nat},¬a=b->¬b=a:=fun h e=>h e.symm
 have m1':=sy m1;have m2':=sy m2;have o0':=sy o0;have o1':=sy o1;have o2':=sy o2;have q6':=sy q6;have q0':=sy q0;have q1':=sy q1;have q2':=sy q2
 simp (disch:=omega) [zz,hmf,hk1,hk2,n1,n2,m1,m2,m1',m2',o0,o1,o2,o0',o1',o2',q6,q0,q1,q2,q6',q0',q1',q2']
 (repeat with_reducible refine om ?_)
 intro _
 refine jO.ofK [1,0,2,3,4,5,6,7,8] [1] [b3] (by kernel_rfl) ?_
 simp (disch:=omega) [zz,n1,n2,m1,m2,m1',m2',o0,o1,o2,o0',o1',o2',q6,q0,q1,q2,q6',q0',q1',q2']
 (repeat with_reducible refine om ?_)
 obtain⟨rest,hrest⟩:∃rest:q8,rest=p.QH++p.S:=⟨_,rfl⟩
 have hrer:rest.er=rest:=by
  rw[zP.core]at her
  exact YK.2 fun z hz=>YK.1 her z (by rw[hrest]at hz;simp only[List.mem_cons,List.mem_append]at hz |-;exact .inr (.inr (.inr hz)))
 have hknE:=zcu r.known
 rw[<-hrest]
 rw[<-hrest]at fin
 have hndk:(R::p.K::(p.TA.keys++rest.keys)).Nodup:=by
  have:(p.core R r).keys=R::p.K::(p.TA.keys++rest.keys):=by rw[hrest];simp[zP.core,q8.keys]
  rw[<-this];exact hnd
 rcases hp.todo with⟨hfs,hta,hTA⟩|⟨T,cap,j,hj,hta,hcap,hTA⟩
 ·rw[hta,hTA,List.nil_append]
  rw[hfs]at fin
  refine jO.ofK [0,1,2,3,4,5,6,7,8,9,10] [0] [b3] (by kernel_rfl) ?_
  simp (disch:=omega) [zz,n1,n2,m1,m2,m1',m2',o0,o1,o2,o0',o1',o2',q6,q0,q1,q2,q6',q0',q1',q2']
  (repeat with_reducible refine om ?_)
  intro b cap c5 c4 c3 c1 c2 c6 c7
  have c1':=sy c1;have c2':=sy c2;have c3':=sy c3;have c4':=sy c4;have c5':=sy c5
  refine⟨by assumption,?_⟩
  (repeat with_reducible refine om ?_)
  simp (disch:=omega) [zz,n1,n2,m1,m2,m1',m2',o0,o1,o2,o0',o1',o2',q6,q0,q1,q2,q6',q0',q1',q2',c5,c4,c3,c1,c2,c5',c4',c3',c1',c2']
  simp (disch:=omega) [zz,Tryz.f143,hrer,hknE,hk2,zH,Q7]
  rw[show AV.erks (List.replicate (cap-1) AV.nilfn)=_ from JK.rep rfl _]
  refine fin b3 b4 b5 (.msl b 1 0 1 cap) [(b,.var (.arr cap 1) (.agg (_::List.replicate (cap-1) .nilfn)))] _ (.inr ⟨b,cap,List.replicate (cap-1) .nilfn,JK.rep rfl _,rfl,by simp;omega,rfl⟩) (HSub.of_perm ?_)
  refine List.perm_iff_count.2 fun a=>?_
  simp only[List.count_append,List.count_cons,List.count_nil,qS,qV,yI,qJ]
  omega
 ·rw[hTA]at hndk
  simp only[q8.keys,List.map_cons,List.map_nil,List.cons_append,List.nil_append,List.nodup_cons,List.mem_cons,not_or]at hndk
  obtain⟨⟨k1,t1',k2⟩,⟨t2',k3⟩,k4,k5⟩:=hndk
  have t1:=sy t1';have t2:=sy t2'
  rw[hTA]at m3 o3 q3
  simp only[q8.keys,List.map_cons,List.map_nil,List.mem_cons,List.not_mem_nil,or_false]at m3 o3 q3
  have t3':=m3;have t4':=o3;have t5':=q3
  have t3:=sy t3';have t4:=sy t4';have t5:=sy t5'
  rw[hta,hTA,List.cons_append,List.nil_append]
  have hfl:=hp.tds.len
  obtain⟨fs,hfs⟩:∃fs,fs=p.fs:=⟨_,rfl⟩
  rw[<-hfs]at fin hfl hcap |-
  have hjfs:=hp.tds.jk
  rw[<-hfs]at hjfs
  refine jO.ofK [0,1,2,3,4,5,6,7,8,9,10] [0] [b3] (by kernel_rfl) ?_
  simp (disch:=omega) [zz,n1,n2,m1,m2,m1',m2',o0,o1,o2,o0',o1',o2',q6,q0,q1,q2,q6',q0',q1',q2',t5,t4,t3,t1,t2,t5',t4',t3',t1',t2']
  (repeat with_reducible refine om ?_)
  refine⟨fun hroom=>?_,fun hgrow=>?_⟩
  ·(repeat with_reducible refine om ?_)
   simp (disch:=omega) [zz,Tryz.f143,hrer,hknE,hk2,zH,Q7]
   rw[show AV.erks (fs++AV.fn 171 [.ptr b5 .func [],.ptr b3 .ptr [],.ptr b4 .str []]::j.tail)=_ from hjfs.app (JK.cons rfl hj.tail),List.append_cons]
   refine fin b3 b4 b5 (.msl T 1 0 (fs.length+1) cap) [(T,.var (.arr cap 1) (.agg (fs++[_]++j.tail)))] _ (.inr ⟨T,cap,j.tail,hj.tail,by simp,by simp;omega,rfl⟩) (HSub.of_perm ?_)
   refine List.perm_iff_count.2 fun a=>?_
   simp only[List.count_append,List.count_cons,List.count_nil,qS,qV,yI,qJ]
   omega
  ·intro b cap2 c5 c4 c3 c1 c2 c8 c6 c7
   have c1':=sy c1;have c2':=sy c2;have c3':=sy c3;have c4':=sy c4;have c5':=sy c5;have c8':=sy c8
   refine⟨by assumption,?_⟩
   (repeat with_reducible refine om ?_)
   simp (disch:=omega) [zz,n1,n2,m1,m2,m1',m2',o0,o1,o2,o0',o1',o2',q6,q0,q1,q2,q6',q0',q1',q2',t5,t4,t3,t1,t2,t5',t4',t3',t1',t2',c5,c4,c3,c1,c2,c5',c4',c3',c1',c2',c8,c8']
   simp (disch:=omega) [zz,Tryz.f143,hrer,hknE,hk2,zH,Q7]
   rw[show AV.erks (fs++AV.fn 171 [.ptr b5 .func [],.ptr b3 .ptr [],.ptr b4 .str []]::List.replicate (cap2-(fs.length+1)) AV.nilfn)=_ from hjfs.app (JK.cons rfl (JK.rep rfl _)),List.append_cons]
   refine fin b3 b4 b5 (.msl b 1 0 (fs.length+1) cap2) [(b,.var (.arr cap2 1) (.agg (fs++[_]++List.replicate (cap2-(fs.length+1)) .nilfn)))] _ (.inr ⟨b,cap2,_,JK.rep rfl _,by simp,by simp;omega,rfl⟩) ⟨(T,.var (.arr cap 1) (.agg (AV.erks (fs++j))))::_,?_,(List.Sublist.refl _).cons _⟩
   refine List.perm_iff_count.2 fun a=>?_
   simp only[List.count_append,List.count_cons,List.count_nil,qS,qV,yI,qJ]
   omega
theorem dS {kn:List KnV} {p:Txt} {k:KnV} (h:j3 kn p=some k):k∈kn:=List.mem_of_find?_eq_some h
structure RB (r:qG):Prop where
 buf:r.buf.length<=1000000000
 todo:r.todo.length<=1000000000
 dat:∀k∈r.known,k.is=true->k.data.length<=1000000
 nk:r.known.length<=1000000000
theorem zfG (R:Nat) (pth:Txt) (k:CoV) (kv:AV) {r:qG} {p:zP} (hp:p.OK R r) (hk:V3 R p.q p.S k kv) (hb:RB r) :
  q7 Tryz.prog 143 [.av .ptr (.ptr R kO []),.av .str (.s pth),.av .func kv] (p.core R r) fun y H'=>y=.tup []/\qQ R (yN pth k r) H':=by
 cases hf:j3 r.known pth with
 | some x=>exact zhQ R pth x k kv hp hk hf hb.buf (hb.dat x (dS hf)) hb.todo
 | none =>
  by_cases hn:500<=r.known.length
  ·exact zjj R pth k kv hp hk hf hn hb.nk
  ·exact zl9 R pth k kv hp hk hf hn hb.todo
theorem zej (p:Txt):∀l:List Txt,p∉l->K3 (.s p) (.b true) (X8 l)=X8 (l++[p])
 | [],_=>rfl
 | x::l,h=>by
  have h1:x≠p:=fun e=>h (by simp[e])
  have ih:=zej p l fun e=>h (by simp[e])
  simp only[X8,List.map_cons,K3,List.cons_append,AV.s.injEq,h1,if_false]at ih |-
  rw[ih]
abbrev zqv:Cfg:=⟨fun n=>n==4||n==6||n==7,fun n=>n==1000002||n==2000014||n==15⟩
theorem zhq (R Q:Nat) (pth w:Txt) {r:qG} {p:zP} (hp:p.OK R r) (hq:p.q=some Q) (hb:RB r) (hn:pth∉r.seen) :
  q7 Tryz.prog 147 [.av .ptr (.ptr R kO []),.av .str (.s pth),.av .str (.s w),.av xL (.map (some Q))] (p.core R r) fun y H'=>y=.tup []/\qQ R (ZD pth w r) H':=by
 have her:=(show qQ R r (p.core R r) from⟨p,hp,rfl⟩).er
 obtain⟨r1,hr1⟩:∃r1:qG,r1={ r with seen:=r.seen++[pth] }:=⟨_,rfl⟩
 have hsc:ZD pth w r=yN pth (.there (.scan w)) r1:=by rw[ZD,hr1]
 rw[hsc]
 have hb1:RB r1:=by rw[hr1];exact⟨hb.buf,hb.todo,hb.dat,hb.nk⟩
 have hQH:p.QH=[(Q,.map 9 4 (X8 r.seen))]:=by
  rcases hp.seen with⟨h1,_⟩|⟨Q',h1,h2⟩
  ·rw[hq]at h1;cases h1
  ·rw[hq]at h1;cases h1;exact h2
 refine q7.nodup fun hnd=>?_
 have sy:∀ {a b:Nat},¬a=b->¬b=a:=fun h e=>h e.symm
 have hpm:(p.core R r).Perm ((Q,.map 9 4 (X8 r.seen))::(R,qJ p.ta (zO r.env) r.buf p.K r.asks r.waits r.over)::(p.K,.map 9 74 (knE r.known))::(p.TA++p.S)):=by
  refine List.perm_iff_count.2 fun a=>?_
  simp only[zP.core,hQH,List.count_append,List.count_cons,List.count_nil]
  omega
 refine q7.sub (R:=fun y H'=>y=.tup []/\∃H2,Ab.HSub H2 H'/\qQ R (yN pth (.there (.scan w)) r1) H2) ?_ fun y H' ⟨h1,H2,h2,h3⟩ _=>⟨H2,h2,h1,h3⟩
 refine q7.perm hpm ?_
 have hnd2:=((hpm.map Prod.fst).nodup_iff).1 hnd
 refine zov Tryz.func147 zqv fun imm0 w0=>?_
 simp (disch:=omega) [zz]
 intro b4 m1 m2 m3 m4 m5 b6 o0 o1 o2 o3 o4 o5 b7 q6 q0 q1 q2 q3 q4 q5
 have m1':=sy m1;have m2':=sy m2;have m3':=sy m3;have o0':=sy o0;have o1':=sy o1;have o2':=sy o2;have o3':=sy o3;have q6':=sy q6;have q0':=sy q0;have q1':=sy q1;have q2':=sy q2;have q3':=sy q3
 have hmp:=zej pth r.seen hn
 simp (disch:=omega) [zz,m1,m2,m3,m1',m2',m3',o0,o1,o2,o3,o0',o1',o2',o3',q6,q0,q1,q2,q3,q6',q0',q1',q2',q3',hmp]
 obtain⟨H1,hH1⟩:∃H1:q8,H1=(b7,K7 Q)::(b6,qS w)::(b4,qV R)::(Q,.map 9 4 (X8 (r.seen++[pth])))::(R,qJ p.ta (zO r.env) r.buf p.K r.asks r.waits r.over)::(p.K,.map 9 74 (knE r.known))::(p.TA++p.S):=⟨_,rfl⟩
 refine jO.ofK [0,1,2,3,4,5] [0,1] [b4] (by kernel_rfl) ?_
 simp (disch:=omega) [zz,o0,o0',q0,q0',q6,q6']
 (repeat with_reducible refine om ?_)
 obtain⟨tv,htv⟩:∃tv:AV,tv=.fn 173 [.ptr b4 .ptr [],.ptr b6 .str [],.ptr b7 xL []]:=⟨_,rfl⟩
 refine qD (R:=fun y H'=>∃br bt,y=.av .func (.fn 172 [.ptr br .ptr [],.ptr bt .func []])/\H'=[(bt,.var .func tv),(br,qV R)]) [] H1 (by rw[hH1];simp[K7,qS,qV]) rfl (by simp[qE]) (by simp) ?_ ?_
 ·have:=zem R tv (by rw[htv];rfl) (by rw[htv];rfl)
  rw[<-htv]
  simpa[TV.er,AV.er,htv]using this
 rintro y H' ⟨br,bt,rfl,rfl⟩ hnd3
 refine⟨_,HSub.refl _,?_⟩
 rw[hH1]at hnd3 |-
 simp only[q8.keys,List.map_append,List.map_cons,List.map_nil,List.cons_append,List.nil_append,List.nodup_cons,List.mem_cons,not_or]at hnd3
 obtain⟨⟨_,_,_,g1,_⟩,⟨_,_,g2,_⟩,_⟩:=hnd3
 have g1':=sy g1;have g2':=sy g2
 simp (disch:=omega) [zz,XT,g1,g1',g2,g2',o0,o0',q0,q0',q6,q6',K7,qS,qV]
 (repeat with_reducible refine om ?_)
 obtain⟨p2,hp2e⟩:∃p2:zP,p2={ p with QH:=[(Q,.map 9 4 (X8 (r.seen++[pth])))],S:=(bt,yI tv)::(br,qV R)::(b7,K7 Q)::(b6,qS w)::(b4,qV R)::p.S }:=⟨_,rfl⟩
 have hp2:p2.OK R r1:=by
  rw[hp2e,hr1]
  refine⟨hp.todo,.inr ⟨Q,hq,rfl⟩,?_,?_⟩
  ·simp only[q8.er_cons,hp.box,qS,yI,qV,K7,HObj.er_var,AV.erk,htv];rfl
  ·exact hp.tds.mono fun z hz=>by simp[hz]
 have hq2:p2.q=some Q:=by rw[hp2e];exact hq
 have hco:V3 R p2.q p2.S (.there (.scan w)) (.fn 172 [.ptr br .ptr [],.ptr bt .func []]):=by
  rw[hp2e]
  exact⟨br,bt,tv,rfl,by simp,by simp,Q,b4,b6,b7,hq,htv,by simp,by simp,by simp⟩
 have hask:=zfG R pth (.there (.scan w)) _ hp2 hco hb1
 have her2:=(show qQ R r1 (p2.core R r1) from⟨p2,hp2,rfl⟩).er
 refine qD (R:=fun y H'=>y=.tup []/\qQ R (yN pth (.there (.scan w)) r1) H') (p2.core R r1) [] ?_ rfl (by simp[qE]) (by simp) ?_ ?_
 ·rw[hp2e,hr1]
  refine List.perm_iff_count.2 fun a=>?_
  simp only[zP.core,List.count_append,List.count_cons,List.count_nil,qS,yI,qV,K7]
  omega
 ·rw[her2]
  simpa[TV.er,AV.er]using hask
 rintro y H' ⟨rfl,hh⟩ _
 refine⟨H',by simpa using HSub.refl _,?_⟩
 have hhe:=hh.er
 simp (disch:=omega) [zz,Tryz.f147,hhe]
 exact⟨H',HSub.refl _,hh⟩
abbrev zp4:Cfg:=⟨fun _=>false,fun n=>n==10⟩
theorem znk (R bt br bp:Nat) (k:CoV) (kv:AV) (pth:Txt) {r:qG} {p:zP} (hp:p.OK R r) (hbt:(bt,yI kv)∈p.S) (hbr:(br,qV R)∈p.S) (hbp:(bp,qS pth)∈p.S) (hk:V3 R p.q p.S k kv) (hb:RB r) :
  q7 Tryz.prog 171 [.av .ptr (.ptr bt .func []),.av .ptr (.ptr br .ptr []),.av .ptr (.ptr bp .str [])] (p.core R r) fun y H'=>y=.tup []/\qQ R (coR k ((j3 r.known pth).getD kn0) r) H':=by
 have hH:qQ R r (p.core R r):=⟨p,hp,rfl⟩
 have her:=hH.er
 obtain⟨hk1,hk2⟩:=hk.er
 have hxl:((j3 r.known pth).getD kn0).is=true->((j3 r.known pth).getD kn0).data.length<=1000000:=by
  cases hf:j3 r.known pth with
  | none=>simp[kn0]
  | some x=>exact hb.dat x (dS hf)
 have hco:=znN R ((j3 r.known pth).getD kn0) hp hk hb.buf hxl hb.todo
 have hmf:=uT pth r.known
 refine q7.nodup fun hnd=>?_
 obtain⟨n1,n2⟩:=zP.KR hnd
 have mk:∀ {x},x∈p.S->x∈p.core R r:=fun h=>zP.memS h
 have e1:bt≠br:=YT hnd (mk hbt) (mk hbr) (by simp[yI,qV])
 have e2:bt≠bp:=YT hnd (mk hbt) (mk hbp) (by simp[yI,qS])
 have e3:br≠bp:=YT hnd (mk hbr) (mk hbp) (by simp[qV,qS])
 obtain⟨rest,hpm⟩:=znF hbt hbr hbp e1 e2 e3
 have hpm2:(p.core R r).Perm ((bt,yI kv)::(br,qV R)::(bp,qS pth)::(R,qJ p.ta (zO r.env) r.buf p.K r.asks r.waits r.over)::(p.K,.map 9 74 (knE r.known))::(p.TA++(p.QH++rest))):=by
  refine List.perm_iff_count.2 fun a=>?_
  have:=hpm.count_eq a
  simp only[zP.core,List.count_append,List.count_cons]at this |-
  omega
 have hnd2:=((hpm2.map Prod.fst).nodup_iff).1 hnd
 simp only[List.map_cons,List.nodup_cons,List.mem_cons,not_or]at hnd2
 obtain⟨⟨g1,g2,g3,g4,_⟩,⟨g5,g6,g7,_⟩,⟨g8,g9,_⟩,⟨g10,_⟩,_⟩:=hnd2
 have sy:∀ {a b:Nat},¬a=b->¬b=a:=fun h e=>h e.symm
 have g1':=sy g1;have g2':=sy g2;have g3':=sy g3;have g4':=sy g4;have g5':=sy g5;have g6':=sy g6;have g7':=sy g7;have g8':=sy g8;have g9':=sy g9;have g10':=sy g10
 have hpm3:=hpm2.symm
 refine q7.sub (R:=fun y H'=>y=.tup []/\∃H2,Ab.HSub H2 H'/\qQ R (coR k ((j3 r.known pth).getD kn0) r) H2) ?_ fun y H' ⟨h1,H2,h2,h3⟩ _=>⟨H2,h2,h1,h3⟩
 refine q7.perm hpm2 ?_
 have fin:∀y H',(y=TV.tup []/\qQ R (coR k ((j3 r.known pth).getD kn0) r) H')->True:=fun _ _ _=>trivial
 cases hf:j3 r.known pth with
 | none =>
  rw[hf]at hmf hco
  rw[Option.map_none]at hmf
  refine zov Tryz.func171 zp4 fun imm0 w0=>?_
  simp (disch:=omega) [zz,yI,qV,qS,qJ,hmf,g1,g2,g3,g4,g5,g6,g7,g8,g9,g10,g1',g2',g3',g4',g5',g6',g7',g8',g9',g10']
  (repeat with_reducible refine om ?_)
  refine Q6 (R:=fun y H'=>y=.tup []/\qQ R (coR k kn0 r) H') (p.core R r) [] (by simpa[yI,qV,qS,qJ]using hpm3) her (by simp[qE]) (by simpa[kn0,jD]using hco) ?_
  rintro y H' ⟨rfl,hh⟩ _
  refine⟨H',by simpa using HSub.refl _,?_⟩
  have hhe:=hh.er
  simp (disch:=omega) [zz,Tryz.f171,hhe]
  exact⟨H',HSub.refl _,hh⟩
 | some x =>
  rw[hf]at hmf hco
  rw[Option.map_some]at hmf
  refine zov Tryz.func171 zp4 fun imm0 w0=>?_
  simp (disch:=omega) [zz,yI,qV,qS,qJ,hmf,g1,g2,g3,g4,g5,g6,g7,g8,g9,g10,g1',g2',g3',g4',g5',g6',g7',g8',g9',g10']
  (repeat with_reducible refine om ?_)
  refine Q6 (R:=fun y H'=>y=.tup []/\qQ R (coR k x r) H') (p.core R r) [] (by simpa[yI,qV,qS,qJ]using hpm3) her (by simp[qE]) (by simpa using hco) ?_
  rintro y H' ⟨rfl,hh⟩ _
  refine⟨H',by simpa using HSub.refl _,?_⟩
  have hhe:=hh.er
  simp (disch:=omega) [zz,Tryz.f171,hhe]
  exact⟨H',HSub.refl _,hh⟩
end
end Go.Proofs.YtdkieabmeiojjaaGreatDoor
