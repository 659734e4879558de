/- A tool that goes on: a line of a file that is scanned. No condition. -/
import Derived.Test.YtfkcpballfhddaaGreatDoorP18ToK10
set_option linter.unusedSimpArgs false
set_option linter.unusedVariables false
set_option linter.unusedSectionVars false
set_option maxHeartbeats 64000000
set_option maxRecDepth 100000
namespace Go.Proofs.YtfkcpballfhddaaGreatDoor
open Go Go.Ab
open Classical
section
variable [Sel] [SelPow] [SelMax]
theorem zcI (p:Txt):∀l:List Txt,yK (.s p) (uX l)=if p∈l then some (.b true) else none
 | []=>rfl
 | x::l=>by
  have ih:=zcI p l
  simp only[uX,List.map_cons,yK,AV.s.injEq,List.mem_cons]at ih |-
  by_cases h:x=p
  ·simp[h]
  ·have h':¬p=x:=fun e=>h e.symm
   simp only[h,h',if_false,false_or]
   exact ih
theorem zqn (l:List Txt):List.map (fun p:AV × AV=>(p.1.er,p.2.er)) (uX l)=uX l:=by simp[uX,AV.er,Function.comp_def]
abbrev ztw:Cfg:=⟨fun _=>false,fun n=>n==40⟩
theorem zmC (R Q bs bw br bm:Nat) (s w:Txt) {r:qN} {p:jF} (hp:p.OK R r) (hq:p.q=some Q) (hne:bs≠bw) (hbs:(bs,zE s)∈p.S) (hbw:(bw,zE w)∈p.S) (hbr:(br,zJ R)∈p.S) (hbm:(bm,WJ Q)∈p.S) (hs:s.length<=1000000) (hb:RB r) :
  q7 Tryz.prog 170 [.av .ptr (.ptr bs .str []),.av .ptr (.ptr bw .str []),.av .ptr (.ptr br .ptr []),.av .ptr (.ptr bm XZ [])] (p.core R r) fun y H'=>y=.tup []/\z8 R (J1 s w r) H':=by
 have hH:z8 R r (p.core R r):=⟨p,hp,rfl⟩
 have her:=hH.er
 refine q7.nodup fun hnd=>?_
 have mk:∀ {x},x∈p.S->x∈p.core R r:=fun h=>jF.memS h
 have e1:bs≠br:=XB hnd (mk hbs) (mk hbr) (by simp[zE,zJ])
 have e2:bs≠bm:=XB hnd (mk hbs) (mk hbm) (by simp[WJ,zE])
 have e3:bw≠br:=XB hnd (mk hbw) (mk hbr) (by simp[zJ,zE])
 have e4:bw≠bm:=XB hnd (mk hbw) (mk hbm) (by simp[WJ,zE])
 have e5:br≠bm:=XB hnd (mk hbr) (mk hbm) (by simp[WJ,zJ])
 obtain⟨rest0,hpm0⟩:=zqu hbs hbw hbr hne e1 e3
 have hbm0:(bm,WJ Q)∈rest0:=by
  have:=hpm0.mem_iff.1 hbm
  simp only[List.mem_cons,Prod.mk.injEq]at this
  rcases this with⟨h,_⟩|⟨h,_⟩|⟨h,_⟩|h
  ·exact absurd h.symm e2
  ·exact absurd h.symm e4
  ·exact absurd h.symm e5
  ·exact h
 obtain⟨rest,hpm⟩:=C3 hbm0
 have hQH:p.QH=[(Q,.map 9 4 (uX r.seen))]:=by
  rcases hp.seen with⟨h1,_⟩|⟨Q',h1,h2⟩
  ·rw[hq]at h1;cases h1
  ·rw[hq]at h1;cases h1;exact h2
 have hpm2:(p.core R r).Perm ((bs,zE s)::(bw,zE w)::(br,zJ R)::(bm,WJ Q)::(Q,.map 9 4 (uX r.seen))::(R,qP p.ta (j6 r.env) r.buf p.K r.asks r.waits r.over)::(p.K,.map 9 68 (knE r.known))::(p.TA++rest)):=by
  refine List.perm_iff_count.2 fun a=>?_
  have h1:=hpm0.count_eq a
  have h2:=hpm.count_eq a
  simp only[jF.core,hQH,List.count_append,List.count_cons,List.count_nil]at h1 h2 |-
  omega
 have hnd2:=((hpm2.map Prod.fst).nodup_iff).1 hnd
 simp only[List.map_cons,List.nodup_cons,List.mem_cons,not_or]at hnd2
 obtain⟨⟨g1,g2,g3,g4,g5,_⟩,⟨h2,h3,h4,h5,_⟩,⟨i3,i4,i5,_⟩,⟨j4,j5,_⟩,⟨k5,_⟩,_⟩:=hnd2
 have sy:∀ {a b:Nat},¬a=b->¬b=a:=fun h e=>h e.symm
 have g1':=sy g1;have g2':=sy g2;have g3':=sy g3;have g4':=sy g4;have g5':=sy g5
 have h2':=sy h2;have h3':=sy h3;have h4':=sy h4;have h5':=sy h5;have i3':=sy i3;have i4':=sy i4;have i5':=sy i5;have j4':=sy j4;have j5':=sy j5;have k5':=sy k5
 have hpm3:=hpm2.symm
 have hmf:∀q,yK (.s q) (uX r.seen)=if q∈r.seen then some (.b true) else none:=fun q=>zcI q _
 refine q7.sub (R:=fun y H'=>y=.tup []/\∃H2,Ab.HSub H2 H'/\z8 R (J1 s w r) H2) ?_ fun y H' ⟨h1,H2,h2,h3⟩ _=>⟨H2,h2,h1,h3⟩
 refine q7.perm hpm2 ?_
 obtain⟨ws,hws⟩:∃ws,z6 s=ws:=⟨_,rfl⟩
 have heach:∀w∈ws,w.length<=s.length:=fun w hw=>by
  rw[<-hws]at hw
  have:=ZZ hw
  simpa using this.2
 have hwo:=zg2 s hs
 rw[hws]at hwo
 have hl:=J1.eq_1 s w r
 rw[hws]at hl
 refine zov Tryz.func170 ztw fun imm0 w0=>?_
 simp (disch:=omega) [zz,zE,zJ,WJ,qP,g1,g2,g3,g1',g2',g3']
 refine zcv hwo ?_
 have hadd:=zlM R (s++[10]) hH hb.buf (by simp;omega)
 match ws,hl,heach with
 | [],hl,_ =>
  have hl':J1 s w r=yS (s++[10]) r:=hl
  rw[hl']
  simp (disch:=omega) [zz,strs,g1,g2,g3,g4,g5,h2,h3,h4,h5,i3,i4,i5,j4,j5,k5,g1',g2',g3',g4',g5',h2',h3',h4',h5',i3',i4',i5',j4',j5',k5']
  (repeat with_reducible refine om ?_)
  refine qD (R:=fun y H'=>y=.tup []/\z8 R (yS (s++[10]) r) H') (p.core R r) [] (by simpa[zE,zJ,WJ,qP]using hpm3) rfl (by simp[qI]) (by simp) ?_ ?_
  ·rw[her];simpa[TV.er,AV.er]using hadd
  rintro y H' ⟨rfl,hh⟩ _
  refine⟨H',by simpa using HSub.refl _,?_⟩
  have hhe:=hh.er
  simp (disch:=omega) [zz,Tryz.f170,hhe]
  exact⟨H',HSub.refl _,hh⟩
 | [a],hl,_ =>
  have hl':J1 s w r=yS (s++[10]) r:=hl
  rw[hl']
  simp (disch:=omega) [zz,strs,g1,g2,g3,g4,g5,h2,h3,h4,h5,i3,i4,i5,j4,j5,k5,g1',g2',g3',g4',g5',h2',h3',h4',h5',i3',i4',i5',j4',j5',k5']
  (repeat with_reducible refine om ?_)
  refine qD (R:=fun y H'=>y=.tup []/\z8 R (yS (s++[10]) r) H') (p.core R r) [] (by simpa[zE,zJ,WJ,qP]using hpm3) rfl (by simp[qI]) (by simp) ?_ ?_
  ·rw[her];simpa[TV.er,AV.er]using hadd
  rintro y H' ⟨rfl,hh⟩ _
  refine⟨H',by simpa using HSub.refl _,?_⟩
  have hhe:=hh.er
  simp (disch:=omega) [zz,Tryz.f170,hhe]
  exact⟨H',HSub.refl _,hh⟩
 | a::b::c::t,hl,_ =>
  have hl':J1 s w r=yS (s++[10]) r:=hl
  rw[hl']
  have hz:¬(t.length:Int)+1+1+1=2:=by omega
  simp (disch:=omega) [zz,strs,hz,g1,g2,g3,g4,g5,h2,h3,h4,h5,i3,i4,i5,j4,j5,k5,g1',g2',g3',g4',g5',h2',h3',h4',h5',i3',i4',i5',j4',j5',k5']
  (repeat with_reducible refine om ?_)
  refine qD (R:=fun y H'=>y=.tup []/\z8 R (yS (s++[10]) r) H') (p.core R r) [] (by simpa[zE,zJ,WJ,qP]using hpm3) rfl (by simp[qI]) (by simp) ?_ ?_
  ·rw[her];simpa[TV.er,AV.er]using hadd
  rintro y H' ⟨rfl,hh⟩ _
  refine⟨H',by simpa using HSub.refl _,?_⟩
  have hhe:=hh.er
  simp (disch:=omega) [zz,Tryz.f170,hhe]
  exact⟨H',HSub.refl _,hh⟩
 | [a,q],hl,heach =>
  have hl':J1 s w r=if a≠w\/jQ q=false then yS (s++[10]) r else if q∈r.seen then r else JL q w r:=hl
  have hql:=heach q (by simp)
  by_cases haw:a=w
  rotate_left
  ·rw[if_pos (.inl haw)]at hl'
   rw[hl']
   simp (disch:=omega) [zz,strs,haw,g1,g2,g3,g4,g5,h2,h3,h4,h5,i3,i4,i5,j4,j5,k5,g1',g2',g3',g4',g5',h2',h3',h4',h5',i3',i4',i5',j4',j5',k5']
   (repeat with_reducible refine om ?_)
   refine qD (R:=fun y H'=>y=.tup []/\z8 R (yS (s++[10]) r) H') (p.core R r) [] (by simpa[zE,zJ,WJ,qP]using hpm3) rfl (by simp[qI]) (by simp) ?_ ?_
   ·rw[her];simpa[TV.er,AV.er]using hadd
   rintro y H' ⟨rfl,hh⟩ _
   refine⟨H',by simpa using HSub.refl _,?_⟩
   have hhe:=hh.er
   simp (disch:=omega) [zz,Tryz.f170,hhe]
   exact⟨H',HSub.refl _,hh⟩
  subst haw
  simp (disch:=omega) [zz,strs,g1,g2,g3,g4,g5,h2,h3,h4,h5,i3,i4,i5,j4,j5,k5,g1',g2',g3',g4',g5',h2',h3',h4',h5',i3',i4',i5',j4',j5',k5']
  (repeat with_reducible refine om ?_)
  refine y9 (XJ q (by omega)) rfl rfl (by simp) (by simp[qM,TV.er,AV.er]) ?_
  cases hmv:jQ q
  ·rw[if_pos (.inr hmv)]at hl'
   rw[hl']
   simp (disch:=omega) [zz,hmv,g1,g2,g3,g4,g5,h2,h3,h4,h5,i3,i4,i5,j4,j5,k5,g1',g2',g3',g4',g5',h2',h3',h4',h5',i3',i4',i5',j4',j5',k5']
   (repeat with_reducible refine om ?_)
   refine qD (R:=fun y H'=>y=.tup []/\z8 R (yS (s++[10]) r) H') (p.core R r) [] (by simpa[zE,zJ,WJ,qP]using hpm3) rfl (by simp[qI]) (by simp) ?_ ?_
   ·rw[her];simpa[TV.er,AV.er]using hadd
   rintro y H' ⟨rfl,hh⟩ _
   refine⟨H',by simpa using HSub.refl _,?_⟩
   have hhe:=hh.er
   simp (disch:=omega) [zz,Tryz.f170,hhe]
   exact⟨H',HSub.refl _,hh⟩
  rw[if_neg (by simp[hmv])]at hl'
  by_cases hse:q∈r.seen
  ·rw[if_pos hse]at hl'
   rw[hl']
   simp (disch:=omega) [zz,hmv,hmf,hse,g1,g2,g3,g4,g5,h2,h3,h4,h5,i3,i4,i5,j4,j5,k5,g1',g2',g3',g4',g5',h2',h3',h4',h5',i3',i4',i5',j4',j5',k5']
   (repeat with_reducible refine om ?_)
   obtain⟨c1,c2⟩:=hp.todo.er hp.tds
   have c3:q8.er rest=rest:=XC.2 fun z hz=>XC.1 (PF hpm2 her) z (by simp[hz])
   rw[c1,c2,c3,zqn,zdT,j8,Z9]
   exact⟨p.core R r,HSub.of_perm (by simpa[zE,zJ,WJ,qP]using hpm3),hH⟩
  ·rw[if_neg hse]at hl'
   rw[hl']
   simp (disch:=omega) [zz,hmv,hmf,hse,g1,g2,g3,g4,g5,h2,h3,h4,h5,i3,i4,i5,j4,j5,k5,g1',g2',g3',g4',g5',h2',h3',h4',h5',i3',i4',i5',j4',j5',k5']
   (repeat with_reducible refine om ?_)
   refine qD (R:=fun y H'=>y=.tup []/\z8 R (JL q a r) H') (p.core R r) [] (by simpa[zE,zJ,WJ,qP]using hpm3) rfl (by simp[qI]) (by simp) ?_ ?_
   ·rw[her];simpa[TV.er,AV.er]using ziM R Q q a hp hq hb hse
   rintro y H' ⟨rfl,hh⟩ _
   refine⟨H',by simpa using HSub.refl _,?_⟩
   have hhe:=hh.er
   simp (disch:=omega) [zz,Tryz.f170,hhe]
   exact⟨H',HSub.refl _,hh⟩
theorem KM.of {ws:List Txt} {v:TV} {H:q8} (h:zag ws v H):∃x,v=.av (.slice 9) x/\KM ws x H:=by
 rcases h with⟨rfl,rfl,rfl⟩|⟨b,rfl,rfl⟩
 ·exact⟨_,rfl,.inl ⟨rfl,rfl,rfl⟩⟩
 ·exact⟨_,rfl,.inr ⟨b,_,[],JK.nil,rfl,by simp,by simp⟩⟩
def jU (ws:List Txt):Txt:=ws.flatMap (·++[10])
theorem zhv (ws:List Txt) (k:Nat) (h:k<ws.length):jU (ws.take (k+1))=jU (ws.take k)++(ws[k]++[10]):=by
 rw[jU,List.take_succ_eq_append_getElem h,List.flatMap_append]
 simp[jU]
theorem GF (ws:List Txt) (k:Nat):(jU (ws.take k)).length<=(jU ws).length:=by
 conv=>rhs;rw[<-List.take_append_drop k ws,jU,List.flatMap_append]
 simp[jU]
abbrev zoX:Cfg:=⟨fun n=>n==4,fun n=>n==4⟩
theorem vV (R:Nat) (ws:List Txt) (v:AV) (rowH:q8) (hrow:KM ws v rowH) (hl:(jU ws).length<=1000000000) (hn:ws.length<=1000000000) (ta ea:AV) (buf:Txt) (K:Nat) (asks:Txt) (waits:Bool) (over:DoV) (h1:ta.erk=ta) (h2:ea.erk=ea) :
  q7 Tryz.prog 171 [.av .ptr (.ptr R wH []),.av (.slice 9) v] ((R,qP ta ea buf K asks waits over)::rowH) fun r H'=>r=.tup []/\H'=[(R,if 65536<(jU ws).length then qP ta ea [] K asks waits ⟨4,[],[],6⟩ else qP ta ea (jU ws) K asks waits over)]:=by
 obtain⟨hrer,hver⟩:=hrow.er
 obtain⟨E,hE⟩:∃E,E=if 65536<(jU ws).length then qP ta ea [] K asks waits ⟨4,[],[],6⟩ else qP ta ea (jU ws) K asks waits over:=⟨_,rfl⟩
 rw[<-hE]
 have hadd:=zlD R (jU ws) ta ea [] K asks waits over h1 h2 (by simp) (by omega)
 have hE2:(if 65536<([]:Txt).length+(jU ws).length then qP ta ea [] K asks waits ⟨4,[],[],6⟩ else qP ta ea ([]++jU ws) K asks waits over)=E:=by rw[hE];simp
 rw[hE2]at hadd
 have heo:∀buf,(qP ta ea buf K asks waits over).er=qP ta ea buf K asks waits over:=fun buf=>JR h1 h2
 have hEe:E.er=E:=by rw[hE];split<;>exact JR h1 h2
 refine q7.nodup fun hnd=>?_
 refine q7.sub (R:=fun y H'=>y=.tup []/\∃H2,Ab.HSub H2 H'/\H2=[(R,E)]) ?_ fun y H' ⟨h1,H2,h2,h3⟩ _=>⟨H2,h2,h1,h3⟩
 rcases hrow with⟨hw,hv,hH⟩|⟨T,cap,j,hj,hv,hc,hH⟩
 ·subst hw hv hH
  refine zov Tryz.func171 zoX fun imm0 w0=>?_
  simp (disch:=omega) [zz]
  intro b nb
  have nb':¬R=b:=fun e=>nb e.symm
  refine AT.loop' (α:=Nat × q8) (fun x=>St.of [(0,.av .ptr (.ptr R wH [])),(4,.av .ptr (.ptr b J6 [])),(7,.av (.slice 9) (.sl .no [])),(8,.av (.int .i64) (.i .i64 ([]:List Txt).length)),(9,.av (.int .i64) (.i .i64 x.1))] [] (fun _=>0) ((R,qP ta ea buf K asks waits over)::x.2))
   (fun x=>x.1<=([]:List Txt).length/\BS b (jU (([]:List Txt).take x.1)) x.2) (fun x=>([]:List Txt).length-x.1) (0,[(b,.var J6 (.agg [.nilptr,.nsl]))]) ?_ ?_ ?_
  ·refine Le.ofP ?_ ?_ ?_ ?_ (HSub.of_perm ?_)
   rotate_right
   ·refine List.perm_iff_count.2 fun a=>?_
    simp only[List.count_cons,List.count_nil,J6]
    omega
   all_goals simp[zA,qF]
  ·exact⟨by omega,.fresh _ (.inl rfl) rfl⟩
  rintro⟨k,H⟩ ⟨hk,hB⟩ KL hN hE
  simp only at hk hB hN
  refine zrd zoX ?_
  have htl:=GF ([]:List Txt) k
  have hBe:=hB.er
  have hkl:k=0:=by simpa using hk
  subst hkl
  simp (disch:=omega) [zz]
  refine hE _ _ (by simp) ?_
  rw[List.take_of_length_le (by simp)]at hB
  simp (disch:=omega) [zz,qP]
  refine qD (R:=fun r H'=>r=.av .str (.s (jU ([]:List Txt)))) H [(R,qP ta ea [] K asks waits over)] (by simpa[qP]using List.perm_append_comm (l₁:=[_])) rfl (by simp[qI]) (by simp) ?_ ?_
  ·rw[hBe]
   have:=zcN b (jU ([]:List Txt)) H hB (by omega)
   simpa[TV.er,AV.er]using this
  rintro r H1 rfl _
  refine⟨_,HSub.of_sub (List.sublist_append_right _ _),?_⟩
  simp (disch:=omega) [zz]
  refine qD (R:=fun y H'=>y=.tup []/\H'=[(R,E)]) [(R,qP ta ea [] K asks waits over)] [] (by simp) rfl (by simp[qI]) (by simp) ?_ ?_
  ·rw[show q8.er [(R,qP ta ea [] K asks waits over)]=[(R,qP ta ea [] K asks waits over)] by simp[q8.er_cons,heo]]
   simpa[TV.er,AV.er]using hadd
  rintro y H' ⟨rfl,rfl⟩ _
  refine⟨_,HSub.refl _,?_⟩
  simp (disch:=omega) [zz,Tryz.f171,hEe]
  exact HSub.refl _
 ·subst hv hH
  simp[q8.keys]at hnd
  have nRT:¬R=T:=hnd
  have nRT':¬T=R:=fun e=>hnd e.symm
  refine zov Tryz.func171 zoX fun imm0 w0=>?_
  simp (disch:=omega) [zz]
  intro b nb nTb
  have nb':¬R=b:=fun e=>nb e.symm
  have nTb':¬T=b:=fun e=>nTb e.symm
  refine AT.loop' (α:=Nat × q8) (fun x=>St.of [(0,.av .ptr (.ptr R wH [])),(4,.av .ptr (.ptr b J6 [])),(7,.av (.slice 9) (.msl T 9 0 ws.length cap)),(8,.av (.int .i64) (.i .i64 ws.length)),(9,.av (.int .i64) (.i .i64 x.1))] [] (fun _=>0) ((R,qP ta ea buf K asks waits over)::(T,.var (.arr cap 9) (.agg (strs ws++j)))::x.2))
   (fun x=>x.1<=ws.length/\BS b (jU (ws.take x.1)) x.2) (fun x=>ws.length-x.1) (0,[(b,.var J6 (.agg [.nilptr,.nsl]))]) ?_ ?_ ?_
  ·refine Le.ofP ?_ ?_ ?_ ?_ (HSub.of_perm ?_)
   rotate_right
   ·refine List.perm_iff_count.2 fun a=>?_
    simp only[List.count_cons,List.count_nil,J6]
    omega
   all_goals simp[zA,qF]
  ·exact⟨by omega,.fresh _ (.inl rfl) rfl⟩
  rintro⟨k,H⟩ ⟨hk,hB⟩ KL hN hE
  simp only at hk hB hN
  refine zrd zoX ?_
  have htl:=GF ws k
  have hBe:=hB.er
  by_cases hlt:k<ws.length
  ·have hlt':(k:Int)<ws.length:=by omega
   have hg:=XN ws j k hlt
   have htl2:=GF ws (k+1)
   have hsn:=zhv ws k hlt
   obtain⟨x,hx⟩:∃x,x=ws[k]:=⟨_,rfl⟩
   rw[<-hx]at hg hsn
   have hxl:(jU (ws.take k)).length+(x++[10]).length<=(jU ws).length:=by rw[hsn]at htl2;simpa using htl2
   simp (disch:=omega) [zz,hlt',hg,nRT,nRT',nb,nb',nTb,nTb']
   refine⟨by rw[List.length_append,List.length_singleton]at hxl;omega,?_⟩
   refine qD (R:=fun r H'=>r=.tup [(.int .i64,.i .i64 (x++[10]).length),(.iface,.nilifc)]/\BS b (jU (ws.take (k+1))) H') H [(R,qP ta ea buf K asks waits over),(T,.var (.arr cap 9) (.agg (strs ws++j)))] (List.perm_append_comm (l₁:=[_,_])) rfl (by simp[qI]) (by simp) ?_ ?_
   ·rw[hBe]
    have:=zs9 b (jU (ws.take k)) (x++[10]) H hB (by omega)
    rw[<-hsn]at this
    simpa[TV.er,AV.er]using this
   rintro r H1 ⟨rfl,hB1⟩ _
   refine⟨_,HSub.of_perm (List.perm_append_comm (l₂:=[_,_])),?_⟩
   simp (disch:=omega) [zz]
   refine hN _ (k+1,H1) ?_ ⟨by omega,hB1⟩ (by simp only;omega)
   refine Le.ofP ?_ ?_ ?_ ?_ (HSub.refl _)<;>simp[zA,qF]
  have hkl:k=ws.length:=by omega
  subst hkl
  simp (disch:=omega) [zz,nRT,nRT',nb,nb',nTb,nTb']
  refine hE _ _ (by simp) ?_
  rw[List.take_of_length_le (by simp)]at hB
  simp (disch:=omega) [zz,qP]
  refine qD (R:=fun r H'=>r=.av .str (.s (jU ws))) H [(R,qP ta ea [] K asks waits over),(T,.var (.arr cap 9) (.agg (strs ws++j)))] (by simpa[qP]using List.perm_append_comm (l₁:=[_,_])) rfl (by simp[qI]) (by simp) ?_ ?_
  ·rw[hBe]
   have:=zcN b (jU ws) H hB (by omega)
   simpa[TV.er,AV.er]using this
  rintro r H1 rfl _
  refine⟨_,HSub.of_sub (List.sublist_append_right _ _),?_⟩
  simp (disch:=omega) [zz]
  refine qD (R:=fun y H'=>y=.tup []/\H'=[(R,E)]) [(R,qP ta ea [] K asks waits over)] [(T,.var (.arr cap 9) (.agg (strs ws++j)))] (by simp) rfl (by simp[qI]) (by simp) ?_ ?_
  ·rw[show q8.er [(R,qP ta ea [] K asks waits over)]=[(R,qP ta ea [] K asks waits over)] by simp[q8.er_cons,heo]]
   simpa[TV.er,AV.er]using hadd
  rintro y H' ⟨rfl,rfl⟩ _
  refine⟨_,HSub.refl _,?_⟩
  simp (disch:=omega) [zz,Tryz.f171,hEe]
  exact HSub.of_sub (List.Sublist.cons_cons _ (List.nil_sublist _))
end
section
variable [Sel]
def ZP {α:Type} (p:α->Bool) (xs:List α):Int:=match xs.findIdx? p with|some i=>i|none=>-1
theorem W6 {α:Type} {p:α->Bool} {xs:List α} {k:Nat} (hlt:k<xs.length) (h0:∀x∈xs.take k,p x=false) (h1:p xs[k]=true):ZP p xs=k:=by
 have:xs.findIdx? p=some k:=by
  rw[List.findIdx?_eq_some_iff_getElem]
  refine⟨hlt,h1,fun j hj=>?_⟩
  rw[h0 _ (List.mem_take_iff_getElem.2 ⟨j,by omega,rfl⟩)];simp
 simp[ZP,this]
theorem K0 {α:Type} {p:α->Bool} {xs:List α} (h0:∀x∈xs,p x=false):ZP p xs=-1:=by
 have:xs.findIdx? p=none:=by
  rw[List.findIdx?_eq_none_iff];exact h0
 simp[ZP,this]
theorem zat {α:Type} (p:α->Bool) (xs:List α):(ZP p xs=-1/\xs.find? p=none)\/∃(i:Nat) (h:i<xs.length),ZP p xs=i/\xs.find? p=some xs[i]:=by
 unfold ZP
 cases h:xs.findIdx? p with
 | none =>
  left;rw[List.findIdx?_eq_none_iff]at h
  exact⟨rfl,List.find?_eq_none.2 fun x hx=>by simp[h x hx]⟩
 | some i =>
  right
  rw[List.findIdx?_eq_some_iff_getElem]at h
  obtain⟨hl,hp,hn⟩:=h
  refine⟨i,hl,rfl,?_⟩
  rw[List.find?_eq_some_iff_getElem]
  exact⟨hp,i,hl,rfl,fun j hj=>by simpa using hn j hj⟩
theorem JZ {α:Type} (p:α->Bool) (xs:List α):(ZP p xs=-1/\∀x∈xs,p x=false)\/∃(i:Nat) (h:i<xs.length),ZP p xs=i/\p xs[i]=true/\∀x∈xs.take i,p x=false:=by
 unfold ZP
 cases h:xs.findIdx? p with
 | none =>
  left;rw[List.findIdx?_eq_none_iff]at h
  exact⟨rfl,h⟩
 | some i =>
  right
  rw[List.findIdx?_eq_some_iff_getElem]at h
  obtain⟨hl,hp,hn⟩:=h
  refine⟨i,hl,rfl,hp,fun x hx=>?_⟩
  obtain⟨q,hq,rfl⟩:=List.mem_take_iff_getElem.1 hx
  simpa using hn q (by omega)
theorem zjf (A M:List AV) (m y:AV):(A++(m::M)).set A.length y=A++(y::M):=by
 rw[List.set_append_right _ _ (Nat.le_refl _)];simp
end
section
variable [Sel] [SelPow] [SelMax]
def zdO (f:AV) (bt:Nat) (o:HObj) (g:Txt->Bool) (ts:List Txt):Prop:=o.er=o/\f.er=f/\∀x∈ts,VC1 f [.av .str (.s x)] [(bt,o)] fun r H'=>r=.av .bool (.b (g x))/\H'=[(bt,o)]
theorem zg4 (g:Txt->Bool) (f:AV) (bt:Nat) (o:HObj) (ts:List Txt) (hf:zdO f bt o g ts) (b cap:Nat) (j:List AV) (hj:JK j) (hb:b≠bt) (hcap:ts.length+j.length=cap) (hn:ts.length<=1000000000) :
  q7 Tryz.prog 129 [.av (.slice 9) (.msl b 9 0 ts.length cap),.av .func f] [(b,yR cap ts j),(bt,o)]
   fun r H'=>r=.av (.int .i64) (.i .i64 (ZP g ts))/\H'=[(b,yR cap ts j),(bt,o)]:=by
 obtain⟨ho,hfe,hff⟩:=hf
 have hre:=YG (cap:=cap) (ts:=ts) hj
 refine zov Tryz.func129 cf0 fun imm0 w0=>?_
 simp (disch:=omega) [zz]
 refine AT.loop' (α:=Nat) (fun k=>St.of [(0,.av (.slice 9) (.msl b 9 0 ts.length cap)),(1,.av .func f),(7,.av (.int .i64) (.i .i64 ts.length)),(8,.av (.int .i64) (.i .i64 k))] [] (fun _=>0) [(b,yR cap ts j),(bt,o)])
  (fun k=>k<=ts.length/\∀x∈ts.take k,g x=false) (fun k=>ts.length-k) 0 ?_ ?_ ?_
 ·apply Le.of<;>simp[zA,qF]
 ·simp
 rintro k ⟨hk',hpk⟩ KL hN hE
 refine zrd cf0 ?_
 by_cases hlt:k<ts.length
 ·have hlt':(k:Int)<ts.length:=by omega
  have hg:=XN ts j k hlt
  simp (disch:=omega) [zz,hlt',yR,hg]
  refine ZB (R:=fun r' H'=>r'=.av .bool (.b (g ts[k]))/\H'=[(bt,o)]) [(bt,o)] [(b,yR cap ts j)] (by simpa[yR]using List.Perm.swap _ _ _) (by simp[q8.er_cons,ho]) (by simp[qI]) (hff _ (List.getElem_mem hlt)) ?_
  rintro r' H' ⟨rfl,rfl⟩ _
  refine⟨[(b,yR cap ts j),(bt,o)],HSub.of_perm (List.Perm.swap _ _ _),?_⟩
  by_cases hp:g ts[k]=true
  ·simp (disch:=omega) [zz,hp]
   refine hE _ _ (by simp) ?_
   simp (disch:=omega) [zz,Tryz.f129,W6 hlt hpk hp,hre,ho]
  ·simp (disch:=omega) [zz,hp]
   refine hN _ (k+1) ?_ ⟨by omega,by rw[yG hlt];exact⟨hpk,by simpa using hp⟩⟩ (by omega)
   apply Le.of<;>simp[zA,qF]
 ·have hlt':¬(k:Int)<ts.length:=by omega
  simp (disch:=omega) [zz,hlt']
  refine hE _ _ (by simp) ?_
  rw[List.take_of_length_le (by omega)]at hpk
  simp (disch:=omega) [zz,Tryz.f129,K0 hpk,hre,ho]
theorem zcG (f:AV) (bt:Nat) (o:HObj) (ho:o.er=o) :
  q7 Tryz.prog 129 [.av (.slice 9) (.sl .no []),.av .func f] [(bt,o)]
   fun r H'=>r=.av (.int .i64) (.i .i64 (-1))/\H'=[(bt,o)]:=by
 refine zov Tryz.func129 cf0 fun imm0 w0=>?_
 simp (disch:=omega) [zz]
 refine AT.loop' (α:=Nat) (fun k=>St.of [(7,.av (.int .i64) (.i .i64 0)),(8,.av (.int .i64) (.i .i64 0))] [] (fun _=>0) [(bt,o)])
  (fun k=>True) (fun k=>0) 0 ?_ ?_ ?_
 ·apply Le.of<;>simp[zA,qF]
 ·simp
 rintro k-KL hN hE
 refine zrd cf0 ?_
 simp (disch:=omega) [zz]
 refine hE _ _ (by simp) ?_
 simp (disch:=omega) [zz,Tryz.f129,ho]
theorem zoR (g:Txt->Bool) (f:AV) (bt:Nat) (o:HObj) (ts:List Txt) (hf:zdO f bt o g ts) (v:AV) (H:q8) (hrow:KM ts v H) (hb:∀b∈H.keys,b≠bt) (hn:ts.length<=1000000000) :
  q7 Tryz.prog 98 [.av (.slice 9) v,.av .func f] (H++[(bt,o)]) fun r H'=>r=.av .bool (.b (ts.any g))/\H'=H++[(bt,o)]:=by
 have ho:=hf.1
 have hfe:=hf.2.1
 rcases hrow with⟨rfl,rfl,rfl⟩|⟨b,cap,j,hj,rfl,hc,rfl⟩
 ·refine zov Tryz.func98 cf0 fun imm0 w0=>?_
  simp (disch:=omega) [zz]
  refine wZ (R:=fun r' H'=>r'=.av (.int .i64) (.i .i64 (-1))/\H'=[(bt,o)]) rfl (by simp[qI]) (by simp) ?_ ?_
  ·have:=zcG f bt o ho
   simpa[TV.er,AV.er,q8.er_cons,ho,hfe]using this
  rintro r' H' ⟨rfl,rfl⟩
  simp (disch:=omega) [zz,Tryz.f98,ho]
 ·have hbb:b≠bt:=hb b (by simp[q8.keys])
  have hre:=YG (cap:=cap) (ts:=ts) hj
  refine zov Tryz.func98 cf0 fun imm0 w0=>?_
  simp (disch:=omega) [zz]
  refine wZ (R:=fun r' H'=>r'=.av (.int .i64) (.i .i64 (ZP g ts))/\H'=[(b,yR cap ts j),(bt,o)]) rfl (by simp[qI]) (by simp) ?_ ?_
  ·have:=zg4 g f bt o ts hf b cap j hj hbb hc hn
   rw[show q8.er [(b,HObj.var (TyD.arr cap 9) (AV.agg (strs ts++j))),(bt,o)]=[(b,yR cap ts j),(bt,o)] by
    rw[q8.er_cons,q8.er_cons,ho];rw[show (HObj.var (TyD.arr cap 9) (AV.agg (strs ts++j))).er=yR cap ts j from hre];rfl]
   simpa[TV.er,AV.er,hfe]using this
  rintro r' H' ⟨rfl,rfl⟩
  rcases JZ g ts with⟨he,hall⟩|⟨i,hi,he,hs,_⟩
  ·have:ts.any g=false:=by simpa using hall
   simp (disch:=omega) [zz,he,this,Tryz.f98,hre,ho]
   rfl
  ·have h1:ts.any g=true:=by simp;exact⟨_,List.getElem_mem hi,hs⟩
   have h2:(0:Int)<=i:=by omega
   simp (disch:=omega) [zz,he,h1,h2,Tryz.f98,hre,ho]
   rfl
end
section
variable [Sel]
theorem zhp (ts:List Txt) (x:Txt) (hn:ts.length<=1000000000):PC Tryz.prog 86 [.av (.slice 9) (.sl .no (strs ts)),.av .str (.s x)] (.av (.int .i64) (.i .i64 (ZP (fun y=>decide (y=x)) ts))):=by
 refine zow Tryz.func86 cf0 fun imm0 w0=>?_
 simp (disch:=omega) [zz]
 refine AT.loop' (α:=Nat) (fun k=>St.of [(0,.av (.slice 9) (.sl .no (strs ts))),(1,.av .str (.s x)),(7,.av (.int .i64) (.i .i64 ts.length)),(8,.av (.int .i64) (.i .i64 k))] [] (fun _=>0) [])
  (fun k=>k<=ts.length/\∀y∈ts.take k,(fun y=>decide (y=x)) y=false) (fun k=>ts.length-k) 0 ?_ ?_ ?_
 ·apply Le.of<;>simp[zA,qF]
 ·simp
 rintro k ⟨hk',hpk⟩ KL hN hE
 refine zrd cf0 ?_
 by_cases hlt:k<ts.length
 ·have hlt':(k:Int)<ts.length:=by omega
  have hg:=Q5 ts k hlt
  by_cases hp:ts[k]=x
  ·have hp':x=ts[k]:=hp.symm
   have hi:=W6 (p:=fun y=>decide (y=x)) hlt hpk (by simpa using hp)
   generalize ts[k]=y at *
   subst hp
   simp (disch:=omega) [zz,hlt',hg]
   refine hE _ _ (by simp) ?_
   simp (disch:=omega) [zz,Tryz.f86,hi]
  ·have hp':¬x=ts[k]:=fun e=>hp e.symm
   simp (disch:=omega) [zz,hlt',hg,hp']
   refine hN _ (k+1) ?_ ⟨by omega,by rw[yG hlt];exact⟨hpk,by simpa using hp⟩⟩ (by omega)
   apply Le.of<;>simp[zA,qF]
 ·have hlt':¬(k:Int)<ts.length:=by omega
  simp (disch:=omega) [zz,hlt']
  refine hE _ _ (by simp) ?_
  rw[List.take_of_length_le (by omega)]at hpk
  simp (disch:=omega) [zz,Tryz.f86,K0 (p:=fun y=>decide (y=x)) hpk]
theorem JJ (ts:List Txt) (x:Txt) (hn:ts.length<=1000000000):PC Tryz.prog 52 [.av (.slice 9) (.sl .no (strs ts)),.av .str (.s x)] (.av .bool (.b (decide (x∈ts)))):=by
 refine zow Tryz.func52 cf0 fun imm0 w0=>?_
 simp (disch:=omega) [zz]
 refine zcv (zhp ts x hn) ?_
 rcases JZ (fun y=>decide (y=x)) ts with⟨he,hall⟩|⟨i,hi,he,hs,_⟩
 ·have:¬x∈ts:=fun h=>by have:=hall x h;simp at this
  simp (disch:=omega) [zz,he,this,Tryz.f52]
 ·have h1:x∈ts:=by simp at hs;rw[<-hs];exact List.getElem_mem hi
  have h2:(0:Int)<=i:=by omega
  simp (disch:=omega) [zz,he,h1,h2,Tryz.f52]
end
section
variable [Sel] [SelPow] [SelMax]
def zqs (f:AV) (Hs:q8) (g:Txt->Bool) (ts:List Txt):Prop:=Hs.er=Hs/\f.er=f/\∀x∈ts,VC1 f [.av .str (.s x)] Hs fun r H'=>r=.av .bool (.b (g x))/\H'=Hs
theorem zpZ (g:Txt->Bool) (f:AV) (Hs:q8) (ts:List Txt) (hf:zqs f Hs g ts) (hn:ts.length<=1000000000) :
  q7 Tryz.prog 129 [.av (.slice 9) (.sl .no (strs ts)),.av .func f] Hs
   fun r H'=>r=.av (.int .i64) (.i .i64 (ZP g ts))/\H'=Hs:=by
 obtain⟨ho,hfe,hff⟩:=hf
 refine zov Tryz.func129 cf0 fun imm0 w0=>?_
 simp (disch:=omega) [zz]
 refine AT.loop' (α:=Nat) (fun k=>St.of [(0,.av (.slice 9) (.sl .no (strs ts))),(1,.av .func f),(7,.av (.int .i64) (.i .i64 ts.length)),(8,.av (.int .i64) (.i .i64 k))] [] (fun _=>0) Hs)
  (fun k=>k<=ts.length/\∀x∈ts.take k,g x=false) (fun k=>ts.length-k) 0 ?_ ?_ ?_
 ·apply Le.of<;>simp[zA,qF]
 ·simp
 rintro k ⟨hk',hpk⟩ KL hN hE
 refine zrd cf0 ?_
 by_cases hlt:k<ts.length
 ·have hlt':(k:Int)<ts.length:=by omega
  have hg:=Q5 ts k hlt
  simp (disch:=omega) [zz,hlt',hg]
  refine ZB (R:=fun r' H'=>r'=.av .bool (.b (g ts[k]))/\H'=Hs) Hs [] (by simp) ho (by simp[qI]) (hff _ (List.getElem_mem hlt)) ?_
  rintro r' H' ⟨rfl,rfl⟩ _
  refine⟨H',by simpa using HSub.refl _,?_⟩
  by_cases hp:g ts[k]=true
  ·simp (disch:=omega) [zz,hp]
   refine hE _ _ (by simp) ?_
   simp (disch:=omega) [zz,Tryz.f129,W6 hlt hpk hp,ho]
  ·simp (disch:=omega) [zz,hp]
   refine hN _ (k+1) ?_ ⟨by omega,by rw[yG hlt];exact⟨hpk,by simpa using hp⟩⟩ (by omega)
   apply Le.of<;>simp[zA,qF]
 ·have hlt':¬(k:Int)<ts.length:=by omega
  simp (disch:=omega) [zz,hlt']
  refine hE _ _ (by simp) ?_
  rw[List.take_of_length_le (by omega)]at hpk
  simp (disch:=omega) [zz,Tryz.f129,K0 hpk,ho]
theorem VB (g:Txt->Bool) (f:AV) (Hs:q8) (ts:List Txt) (hf:zqs f Hs g ts) (hn:ts.length<=1000000000) :
  q7 Tryz.prog 98 [.av (.slice 9) (.sl .no (strs ts)),.av .func f] Hs fun r H'=>r=.av .bool (.b (ts.any g))/\H'=Hs:=by
 have ho:=hf.1
 have hfe:=hf.2.1
 have hek:AV.ers (strs ts)=strs ts:=pU ts
 refine zov Tryz.func98 cf0 fun imm0 w0=>?_
 simp (disch:=omega) [zz]
 refine qD (R:=fun r' H'=>r'=.av (.int .i64) (.i .i64 (ZP g ts))/\H'=Hs) Hs [] (by simp) rfl (by simp[qI]) (by simp) ?_ ?_
 ·rw[ho]
  have:=zpZ g f Hs ts hf hn
  simpa[TV.er,AV.er,hek,hfe]using this
 rintro r' H' ⟨rfl,rfl⟩ _
 refine⟨H',by simpa using HSub.refl _,?_⟩
 rcases JZ g ts with⟨he,hall⟩|⟨i,hi,he,hs,_⟩
 ·have:ts.any g=false:=by simpa using hall
  simp (disch:=omega) [zz,he,this,Tryz.f98,ho]
 ·have h1:ts.any g=true:=by simp;exact⟨_,List.getElem_mem hi,hs⟩
  have h2:(0:Int)<=i:=by omega
  simp (disch:=omega) [zz,he,h1,h2,Tryz.f98,ho]
theorem uH (l:List Txt) (hl:l.length<=1000000):PC Tryz.prog 21 [.av (.slice 9) (.sl .no (strs l))] (.av (.slice 9) (.sl .no (strs l))):=by
 have hby:Tryz.prog.bytesOf 9=16:=by kernel_rfl
 refine zow Tryz.func21 cf0 fun imm0 w0=>?_
 simp (disch:=omega) [zz]
 refine⟨?_,?_⟩
 ·intro h
  have:l=[]:=by simpa[strs]using h
  subst this
  simp (disch:=omega) [zz,Tryz.f21,strs]
 ·simp (disch:=omega) [zz,y4,hby,Tryz.f21]
  omega
def QA (c:UInt8):Bool:=jS c.toNat
def YY (c:UInt8):Bool:=decide (c=63)||decide (c=42)
def xB:List UInt8->Bool
 | []=>true
 | c::r=>(QA c||YY c)&&(!wL (c::r) [42,42]&&xB r)
def yX (s:List UInt8):Bool:=decide (s=[42,42])||(xB s&&decide (1<=s.length/\s.length<=64/\s≠[46]/\s≠[46,46]))
def xD (p:List UInt8):Bool:=decide ((qE 47 p).length<=16)&&(qE 47 p).all yX
theorem zsr (c:UInt8):(jQ [97,c,97]&&decide (c≠47))=QA c:=by
 by_cases h:c=47
 ·subst h;decide
 ·have hs:qE 47 [97,c,97]=[[97,c,97]]:=uM _ (by simp[Ne.symm h])
  have h1:jS 97=true:=by decide
  unfold jQ
  rw[hs]
  simp[QM,h1,h,QA]
theorem znG (c:UInt8):PC Tryz.prog 157 [.av (.int .u8) (.i .u8 c.toNat)] (.av .bool (.b (QA c))):=by
 have hm:=zsr c
 by_cases h:c=47
 ·subst h
  have hb:jQ [97,47,97]=true:=by decide
  have hp:QA 47=false:=by decide
  refine zow Tryz.func157 cf0 fun imm0 w0=>?_
  simp (disch:=omega) [zz]
  refine zcv (XJ [97,47,97] (by simp)) ?_
  simp (disch:=omega) [zz,hb,hp,Tryz.f157]
 have h':¬(c.toNat:Int)=47:=by have:=vI (n:=47) (by omega) h;simpa using this
 have hd:decide (c≠47)=true:=by simpa using h
 rw[hd,Bool.and_true]at hm
 refine zow Tryz.func157 cf0 fun imm0 w0=>?_
 simp (disch:=omega) [zz]
 refine zcv (XJ [97,c,97] (by simp)) ?_
 rw[hm]
 cases hp:QA c
 ·simp (disch:=omega) [zz,Tryz.f157,hp]
 ·simp (disch:=omega) [zz,h',Tryz.f157,hp]
theorem zou {s:List UInt8} {k:Nat} {c:UInt8} (h:s[k]?=some c):xB (s.drop k)=((QA c||YY c)&&(!wL (s.drop k) [42,42]&&xB (s.drop (k+1)))):=by
 rw[Z2 h,xB]
theorem znC (s:List UInt8) (hs:s.length<=1000000000):PC Tryz.prog 128 [.av .str (.s s)] (.av .bool (.b (yX s))):=by
 refine zow Tryz.func128 cf0 fun imm0 w0=>?_
 by_cases h0:s=[42,42]
 ·have:yX s=true:=by simp[yX,h0]
  simp (disch:=omega) [zz,h0,Tryz.f128]
  rw[<-h0];exact this
 have hpg:yX s=(xB s&&decide (1<=s.length/\s.length<=64/\s≠[46]/\s≠[46,46])):=by simp[yX,h0]
 simp (disch:=omega) [zz,h0]
 refine AT.loop' (α:=Nat) (fun k=>St.of [(0,.av .str (.s s)),(7,.av (.int .i64) (.i .i64 s.length)),(8,.av (.int .i64) (.i .i64 k))] [] (fun _=>0) []) (fun k=>k<=s.length/\xB s=xB (s.drop k)) (fun k=>s.length-k) 0 ?_ ?_ ?_
 ·apply Le.of<;>simp[le9,qJ]<;>try omega
 ·simp
 rintro k ⟨hk,hg⟩ KL hN hE
 refine zrd cf0 ?_
 by_cases hlt:k<s.length
 rotate_left
 ·have hlt':¬(k:Int)<s.length:=by omega
  rw[List.drop_of_length_le (by omega)]at hg
  have hgt:xB s=true:=hg
  simp (disch:=omega) [zz,hlt']
  refine hE _ _ (by simp) ?_
  rw[hpg,hgt,Bool.true_and]
  by_cases h1:1<=s.length
  rotate_left
  ·have h1':¬(1:Int)<=s.length:=by omega
   simp (disch:=omega) [zz,h1,h1',Tryz.f128]
  have h1':(1:Int)<=s.length:=by omega
  by_cases h2:s.length<=64
  rotate_left
  ·have h2':¬(s.length:Int)<=64:=by omega
   simp (disch:=omega) [zz,h1,h1',h2,h2',Tryz.f128]
  have h2':(s.length:Int)<=64:=by omega
  by_cases h3:s=[46]
  ·simp (disch:=omega) [zz,h3,Tryz.f128]
  by_cases h4:s=[46,46]
  ·simp (disch:=omega) [zz,h4,Tryz.f128]
  simp (disch:=omega) [zz,h1,h1',h2,h2',h3,h4,Tryz.f128]
 have hlt':(k:Int)<s.length:=by omega
 obtain⟨c,hc⟩:∃c,c=s[k]:=⟨_,rfl⟩
 have hsc:s[k]=c:=hc.symm
 have hgc:s[k]?=some c:=by rw[List.getElem?_eq_getElem hlt,hsc]
 have hat:=zou hgc
 have hdl:(s.drop k).length<=1000000000:=by rw[List.length_drop];omega
 have bad:QA c=false->YY c=false->yX s=false:=by
  intro h1 h2
  rw[hpg,hg,hat,h1,h2];rfl
 have pre:wL (s.drop k) [42,42]=true->yX s=false:=by
  intro h1
  rw[hpg,hg,hat,h1];simp
 have on:(QA c||YY c)=true->wL (s.drop k) [42,42]=false->xB s=xB (s.drop (k+1)):=by
  intro h1 h2
  rw[hg,hat,h1,h2];rfl
 simp (disch:=omega) [zz,hlt',hsc]
 refine zcv (znG c) ?_
 cases hp:QA c
 ·by_cases h63:c=63
  ·subst h63
   simp (disch:=omega) [zz,hsc]
   try (repeat with_reducible refine om ?_)
   refine qG (YA (s.drop k) [42,42] (by omega) (by simp)) rfl rfl (by simp) (by simp[qM,coC,TV.er,AV.er]) ?_
   cases hh:wL (s.drop k) [42,42]
   ·simp (disch:=omega) [zz,hh]
    refine hN _ (k+1) ?_ ⟨by omega,on (by decide) hh⟩ (by omega)
    apply Le.of<;>simp[le9,qJ]<;>try omega
   ·simp (disch:=omega) [zz,hh]
    refine hE _ _ (by simp) ?_
    simp (disch:=omega) [zz,Tryz.f128,pre hh]
  have h63':¬(c.toNat:Int)=63:=by have:=vI (n:=63) (by omega) h63;simpa using this
  by_cases h42:c=42
  ·subst h42
   simp (disch:=omega) [zz,hsc,h63']
   try (repeat with_reducible refine om ?_)
   refine qG (YA (s.drop k) [42,42] (by omega) (by simp)) rfl rfl (by simp) (by simp[qM,coC,TV.er,AV.er]) ?_
   cases hh:wL (s.drop k) [42,42]
   ·simp (disch:=omega) [zz,hh]
    refine hN _ (k+1) ?_ ⟨by omega,on (by decide) hh⟩ (by omega)
    apply Le.of<;>simp[le9,qJ]<;>try omega
   ·simp (disch:=omega) [zz,hh]
    refine hE _ _ (by simp) ?_
    simp (disch:=omega) [zz,Tryz.f128,pre hh]
  have h42':¬(c.toNat:Int)=42:=by have:=vI (n:=42) (by omega) h42;simpa using this
  have hw:YY c=false:=by simp[YY,h63,h42]
  simp (disch:=omega) [zz,hsc,h63',h42']
  try (repeat with_reducible refine om ?_)
  refine hE _ _ (by simp) ?_
  simp (disch:=omega) [zz,Tryz.f128,bad hp hw]
 ·simp (disch:=omega) [zz,hsc]
  try (repeat with_reducible refine om ?_)
  refine qG (YA (s.drop k) [42,42] (by omega) (by simp)) rfl rfl (by simp) (by simp[qM,coC,TV.er,AV.er]) ?_
  cases hh:wL (s.drop k) [42,42]
  ·simp (disch:=omega) [zz,hh]
   refine hN _ (k+1) ?_ ⟨by omega,on (by rw[hp];rfl) hh⟩ (by omega)
   apply Le.of<;>simp[le9,qJ]<;>try omega
  ·simp (disch:=omega) [zz,hh]
   refine hE _ _ (by simp) ?_
   simp (disch:=omega) [zz,Tryz.f128,pre hh]
theorem GB (l:List UInt8) (hl:l.length<=2000000):PC Tryz.prog 126 [.av .str (.s l),.av .str (.s [47])] (.av (.slice 9) (.sl .no (strs (qE 47 l)))):=by
 refine zag.freeze laid (by simp) ((zfN l 47 hl).mono ?_)
 rintro r H' ⟨b,rfl,rfl⟩
 exact .inr ⟨b,rfl,rfl⟩
theorem zq1 (x:List UInt8) (hx:x.length<=1000000000):PC Tryz.prog 127 [.av .str (.s x)] (.av .bool (.b (!yX x))):=by
 refine zow Tryz.func127 cf0 fun imm0 w0=>?_
 simp (disch:=omega) [zz]
 refine zcv (znC x hx) ?_
 simp (disch:=omega) [zz,Tryz.f127]
theorem ziW (p:List UInt8) (hp:p.length<=2000000):PC Tryz.prog 97 [.av .str (.s p)] (.av .bool (.b (xD p))):=by
 refine zow Tryz.func97 cf0 fun imm0 w0=>?_
 have hle:=K4 47 p
 have hlen:∀x∈qE 47 p,x.length<=p.length:=fun x hx=>y6 47 p x hx
 simp (disch:=omega) [zz]
 refine qG (GB p hp) rfl rfl (by simp) (by simp[qM,coC,TV.er,AV.er]) ?_
 by_cases h16:(qE 47 p).length<=16
 ·have h16':((qE 47 p).length:Int)<=16:=by omega
  simp (disch:=omega) [zz,h16']
  refine qD (R:=fun r H'=>r=.av .bool (.b ((qE 47 p).any fun x=>!yX x))/\H'=[]) [] [] (by simp) rfl (by simp[qI]) (by simp) ?_ ?_
  ·have:=VB (fun x=>!yX x) (.fn 127 []) [] (qE 47 p) ⟨rfl,rfl,fun x hx=>⟨[],rfl,by simp,by have h9:=zq1 x (by have:=hlen x hx;omega);unfold PC at h9;simpa[TV.er,AV.er]using h9⟩⟩ (by omega)
   simpa[TV.er,AV.er]using this
  rintro r H' ⟨rfl,rfl⟩ _
  refine⟨[],by simpa using HSub.refl _,?_⟩
  have he:xD p=!((qE 47 p).any fun x=>!yX x):=by
   simp only[xD,h16,decide_true,Bool.true_and,List.all_eq_not_any_not]
  simp (disch:=omega) [zz,Tryz.f97,he]
 ·have h16':¬((qE 47 p).length:Int)<=16:=by omega
  simp (disch:=omega) [zz,h16',Tryz.f97,xD,h16]
def p8 (f:List Txt->Bool):List Txt->Bool
 | []=>f []
 | c::cs=>f (c::cs)||p8 f cs
def wQ:List Txt->List Txt->Bool
 | [],ns=>ns.isEmpty
 | x::xs,ns=>if x=[42,42] then(if xs=[] then !ns.isEmpty else p8 (wQ xs) ns) else match ns with
  | []=>false
  | n::ms=>JB x n&&wQ xs ms
def vP (p s:Txt):Bool:=xD p&&jQ s&&wQ (qE 47 p) (qE 47 s)
abbrev P3:TyD:=.map 201 4
abbrev TsT:TyD:=.slice 9
def XI (a:Nat × Nat):AV:=.agg [.i .i64 a.1,.i .i64 a.2]
def YN (m:List ((Nat × Nat) × Bool)):List (AV × AV):=m.map fun x=>(XI x.1,.b x.2)
def gY (ps ns:List Txt) (m:List ((Nat × Nat) × Bool)):Prop:=∀x∈m,x.2=true->wQ (ps.drop x.1.1) (ns.drop x.1.2)=false
theorem zfj {a b:Nat × Nat}:XI a=XI b<->a=b:=by
 obtain⟨a1,a2⟩:=a;obtain⟨b1,b2⟩:=b
 simp only[XI,AV.agg.injEq,List.cons.injEq,AV.i.injEq,Prod.mk.injEq,true_and,and_true]
 omega
theorem zbG (a:Nat × Nat):∀m:List ((Nat × Nat) × Bool),yK (XI a) (YN m)=none\/∃b,yK (XI a) (YN m)=some (.b b)/\(a,b)∈m
 | []=>.inl rfl
 | (x,b)::m=>by
  have ih:=zbG a m
  simp only[YN,List.map_cons,yK,zfj]
  by_cases h:x=a
  ·subst h;rw[if_pos rfl];exact .inr ⟨b,rfl,by simp⟩
  ·rw[if_neg h]
   rcases ih with ih|⟨c,h1,h2⟩
   ·exact .inl ih
   ·exact .inr ⟨c,h1,by simp[h2]⟩
theorem zaa (ps ns:List Txt) (a:Nat × Nat) (v:Bool) (hv:v=true->wQ (ps.drop a.1) (ns.drop a.2)=false):∀m:List ((Nat × Nat) × Bool),gY ps ns m->∃m',WG (XI a) (.b v) (YN m)=YN m'/\gY ps ns m'
 | [],_=>⟨[(a,v)],rfl,fun x hx h=>by
  rw[List.mem_singleton.1 hx]at h |-;exact hv h⟩
 | (x,b)::m,hm=>by
  obtain⟨m',h1,h2⟩:=zaa ps ns a v hv m fun y hy=>hm y (by simp[hy])
  simp only[YN,List.map_cons,WG,zfj]
  by_cases h:x=a
  ·subst h;rw[if_pos rfl]
   refine⟨(x,v)::m,rfl,fun y hy hh=>?_⟩
   rcases List.mem_cons.1 hy with rfl|hy
   ·exact hv hh
   ·exact hm y (by simp[hy]) hh
  ·rw[if_neg h]
   refine⟨(x,b)::m',by simp only[YN]at h1;rw[h1];rfl,fun y hy hh=>?_⟩
   rcases List.mem_cons.1 hy with rfl|hy
   ·exact hm _ (by simp) hh
   ·exact h2 y hy hh
noncomputable def xK (l:List Txt):HObj:=.var TsT (.sl .no (strs l))
noncomputable def zsm (N:Nat):HObj:=.var P3 (.map (some N))
def zqx (b5 b6 b7 b8:Nat):AV:=.fn 150 [.ptr b5 TsT [],.ptr b6 TsT [],.ptr b7 P3 [],.ptr b8 .func []]
noncomputable def QL (b5 b6 b7 b8 N:Nat) (ps ns:List Txt) (m:List ((Nat × Nat) × Bool)):q8:=[(b5,xK ps),(b6,xK ns),(b7,zsm N),(b8,.var .func (zqx b5 b6 b7 b8)),(N,.map 201 4 (YN m))]
theorem vL (b5 b6 b7 b8 N:Nat) (ps ns:List Txt) (m:List ((Nat × Nat) × Bool)):(QL b5 b6 b7 b8 N ps ns m).er=QL b5 b6 b7 b8 N ps ns m:=by
 have h1:∀l,(xK l).er=xK l:=fun l=>by simp[xK,HObj.er_var,AV.erk]
 have h2:(HObj.map 201 4 (YN m)).er=.map 201 4 (YN m):=by
  simp[HObj.er_map,YN,XI,AV.er,AV.ers,Function.comp_def]
 simp only[QL,q8.er_cons,q8.er_nil,h1,h2];rfl
abbrev ztg:Cfg:=⟨fun _=>false,fun n=>n==52⟩
theorem zpR (m:List ((Nat × Nat) × Bool)):(YN m).map (fun p=>(p.1.er,p.2.er))=YN m:=by
 simp[YN,XI,AV.er,AV.ers,Function.comp_def]
theorem zbe {xs ns:List Txt} (h:xs≠[]):wQ ([42,42]::xs) ns=p8 (wQ xs) ns:=by
 cases xs with
 | nil=>exact absurd rfl h
 | cons y r=>cases ns<;>simp[wQ]
theorem zkB {x n:Txt} {xs ms:List Txt} (h:x≠[42,42]):wQ (x::xs) (n::ms)=(JB x n&&wQ xs ms):=by
 simp[wQ,h]
theorem zpM (b5 b6 b7 b8 N:Nat) (ps ns:List Txt) (hps:ps.length<=2000000) (hns:ns.length<=2000000) (hpl:∀x∈ps,x.length<=2000000) (hnl:∀x∈ns,x.length<=2000000):∀(z i k:Nat) (m:List ((Nat × Nat) × Bool)),(ps.length-i)+(ns.length-k)<z->i<=ps.length->k<=ns.length->gY ps ns m->
  q7 Tryz.prog 150 [.av (.int .i64) (.i .i64 i),.av (.int .i64) (.i .i64 k),.av .ptr (.ptr b5 TsT []),.av .ptr (.ptr b6 TsT []),.av .ptr (.ptr b7 P3 []),.av .ptr (.ptr b8 .func [])] (QL b5 b6 b7 b8 N ps ns m)
   fun r H'=>r=.av .bool (.b (wQ (ps.drop i) (ns.drop k)))/\∃m',gY ps ns m'/\H'=QL b5 b6 b7 b8 N ps ns m':=by
 intro z
 induction z with
 | zero=>intro i k m hz;omega
 | succ z ih =>
  intro i k m hz hi hk hm
  refine q7.nodup fun hnd=>?_
  simp[QL,q8.keys]at hnd
  obtain⟨⟨n1,n2,n3,n4⟩,⟨n5,n6,n7⟩,⟨n8,n9⟩,n10⟩:=hnd
  have sy:∀ {a b:Nat},¬a=b->¬b=a:=fun h e=>h e.symm
  have n1':=sy n1;have n2':=sy n2;have n3':=sy n3;have n4':=sy n4;have n5':=sy n5;have n6':=sy n6;have n7':=sy n7;have n8':=sy n8;have n9':=sy n9;have n10':=sy n10
  have hme:=zpR
  refine q7.sub (R:=fun r H'=>r=.av .bool (.b (wQ (ps.drop i) (ns.drop k)))/\∃m',gY ps ns m'/\H'=QL b5 b6 b7 b8 N ps ns m') ?_ fun r H' h _=>⟨H',HSub.refl _,h⟩
  refine zov Tryz.func150 ztg fun imm0 w0=>?_
  rw[show QL b5 b6 b7 b8 N ps ns m=[(b5,.var TsT (.sl .no (strs ps))),(b6,.var TsT (.sl .no (strs ns))),(b7,.var P3 (.map (some N))),(b8,.var .func (.fn 150 [.ptr b5 TsT [],.ptr b6 TsT [],.ptr b7 P3 [],.ptr b8 .func []])),(N,.map 201 4 (YN m))] from rfl]
  by_cases hip:i=ps.length
  ·have hip':(i:Int)=ps.length:=by omega
   have hd:wQ (ps.drop i) (ns.drop k)=decide (k=ns.length):=by
    rw[List.drop_of_length_le (by omega),wQ]
    by_cases hkn:k=ns.length
    ·subst hkn;simp
    ·have:ns.drop k≠[]:=fun e=>by have:=congrArg List.length e;simp at this;omega
     simp[hkn,this]
   have hkk:decide ((k:Int)=ns.length)=decide (k=ns.length):=decide_eq_decide.2 (by omega)
   simp (disch:=omega) [zz,hip',n1,n1',n2,n2',n3,n3',n4,n4',n5,n5',n6,n6',n7,n7',n8,n8',n9,n9',n10,n10']
   rw[hkk]
   simp (disch:=omega) [zz,hd,hme,Tryz.f150]
   exact⟨m,hm,rfl⟩
  have hip':¬(i:Int)=ps.length:=by omega
  have hil:i<ps.length:=by omega
  have hii:(i:Int)<ps.length:=by omega
  obtain⟨x,hx⟩:∃x,x=ps[i]:=⟨_,rfl⟩
  have hgx:(strs ps)[i]?=some (.s x):=by rw[Q5 ps i hil,hx]
  have hdp:ps.drop i=x::ps.drop (i+1):=by rw[List.drop_eq_getElem_cons hil,hx]
  have hxl:x.length<=2000000:=hpl x (by rw[hx];exact List.getElem_mem _)
  by_cases hf:yK (XI (i,k)) (YN m)=some (.b true)
  ·have hd:wQ (ps.drop i) (ns.drop k)=false:=by
    rcases zbG (i,k) m with h|⟨b,h1,h2⟩
    ·rw[h]at hf;cases hf
    ·rw[h1]at hf;cases hf
     exact hm _ h2 rfl
   simp only[XI]at hf
   simp (disch:=omega) [zz,hip',hf,n1,n1',n2,n2',n3,n3',n4,n4',n5,n5',n6,n6',n7,n7',n8,n8',n9,n9',n10,n10']
   simp (disch:=omega) [zz,hd,hme,Tryz.f150]
   exact⟨m,hm,rfl⟩
  have hf2:yK (XI (i,k)) (YN m)=none\/yK (XI (i,k)) (YN m)=some (.b false):=by
   rcases zbG (i,k) m with h|⟨b,h1,h2⟩
   ·exact .inl h
   ·cases b with
    | true=>exact absurd h1 hf
    | false=>exact .inr h1
  clear hf
  by_cases hxs:x=[42,42]
  rotate_left
  ·-- a plain part
   by_cases hkn:k<ns.length
   rotate_left
   ·have hkn':¬(k:Int)<ns.length:=by omega
    have hd:wQ (ps.drop i) (ns.drop k)=false:=by
     rw[hdp,List.drop_of_length_le (l:=ns) (by omega)]
     simp[wQ,hxs]
    rcases hf2 with hf|hf
    all_goals
     simp only[XI]at hf
     simp (disch:=omega) [zz,hip',hii,hf,hgx,hxs,hkn',n1,n1',n2,n2',n3,n3',n4,n4',n5,n5',n6,n6',n7,n7',n8,n8',n9,n9',n10,n10']
     (repeat with_reducible refine om ?_)
     simp (disch:=omega) [zz,hd,hme,Tryz.f150]
     exact⟨m,hm,rfl⟩
   have hkn':(k:Int)<ns.length:=by omega
   obtain⟨n,hn⟩:∃n,n=ns[k]:=⟨_,rfl⟩
   have hgn:(strs ns)[k]?=some (.s n):=by rw[Q5 ns k hkn,hn]
   have hdn:ns.drop k=n::ns.drop (k+1):=by rw[List.drop_eq_getElem_cons hkn,hn]
   have hnl':n.length<=2000000:=hnl n (by rw[hn];exact List.getElem_mem _)
   have hd:wQ (ps.drop i) (ns.drop k)=(JB x n&&wQ (ps.drop (i+1)) (ns.drop (k+1))):=by
    rw[hdp,hdn,zkB hxs]
   have hone:=zrk x n (by omega) (by omega)
   have hih:=ih (i+1) (k+1) m (by omega) (by omega) (by omega) hm
   obtain⟨o,ho⟩:∃o,o=JB x n:=⟨_,rfl⟩
   rw[<-ho]at hone hd
   have hfx:∃q,yK (XI (i,k)) (YN m)=q/\(q=none\/q=some (.b false)):=⟨_,rfl,hf2⟩
   rcases hf2 with hf|hf
   all_goals
    simp only[XI]at hf
    cases o with
    | false =>
     simp (disch:=omega) [zz,hip',hii,hf,hgx,hxs,hkn',hgn,n1,n1',n2,n2',n3,n3',n4,n4',n5,n5',n6,n6',n7,n7',n8,n8',n9,n9',n10,n10']
     try (repeat with_reducible refine om ?_)
     refine zcd (hone) ?_;(simp (maxSteps:=2000000) (disch:=first|omega|assumption) [zz,n1,n1',n2,n2',n3,n3',n4,n4',n5,n5',n6,n6',n7,n7',n8,n8',n9,n9',n10,n10'])
     try (repeat with_reducible refine om ?_)
     simp (disch:=omega) [zz,hd,hme,Tryz.f150]
     exact⟨m,hm,rfl⟩
    | true =>
     simp (disch:=omega) [zz,hip',hii,hf,hgx,hxs,hkn',hgn,n1,n1',n2,n2',n3,n3',n4,n4',n5,n5',n6,n6',n7,n7',n8,n8',n9,n9',n10,n10']
     try (repeat with_reducible refine om ?_)
     refine zcd (hone) ?_;(simp (maxSteps:=2000000) (disch:=first|omega|assumption) [zz,n1,n1',n2,n2',n3,n3',n4,n4',n5,n5',n6,n6',n7,n7',n8,n8',n9,n9',n10,n10'])
     try (repeat with_reducible refine om ?_)
     refine qD (R:=fun r H'=>r=.av .bool (.b (wQ (ps.drop (i+1)) (ns.drop (k+1))))/\∃m',gY ps ns m'/\H'=QL b5 b6 b7 b8 N ps ns m') (QL b5 b6 b7 b8 N ps ns m) [] (by rw[List.append_nil];exact List.Perm.refl _) rfl (by simp[qI]) (by simp) ?_ ?_
     ·rw[vL]
      simpa[TV.er,AV.er,AV.ers]using hih
     rintro r H' ⟨rfl,m',hm',rfl⟩ _
     refine⟨QL b5 b6 b7 b8 N ps ns m',by rw[List.append_nil];exact HSub.refl _,?_⟩
     rw[show QL b5 b6 b7 b8 N ps ns m'=[(b5,.var TsT (.sl .no (strs ps))),(b6,.var TsT (.sl .no (strs ns))),(b7,.var P3 (.map (some N))),(b8,.var .func (.fn 150 [.ptr b5 TsT [],.ptr b6 TsT [],.ptr b7 P3 [],.ptr b8 .func []])),(N,.map 201 4 (YN m'))] from rfl]
     simp (disch:=omega) [zz,hd,hme,Tryz.f150]
     exact⟨m',hm',rfl⟩
  subst hxs
  by_cases hil1:i+1=ps.length
  ·have hil':(ps.length:Int)-1=i:=by omega
   have hd:wQ (ps.drop i) (ns.drop k)=decide (k<ns.length):=by
    rw[hdp,List.drop_of_length_le (l:=ps) (by omega)]
    by_cases hkn:k<ns.length
    ·rw[List.drop_eq_getElem_cons hkn];simp[wQ,hkn]
    ·rw[List.drop_of_length_le (by omega)];simp[wQ,hkn]
   rcases hf2 with hf|hf
   all_goals
    simp only[XI]at hf
    simp (disch:=omega) [zz,hip',hii,hil',hf,hgx,n1,n1',n2,n2',n3,n3',n4,n4',n5,n5',n6,n6',n7,n7',n8,n8',n9,n9',n10,n10']
    try (repeat with_reducible refine om ?_)
    simp (disch:=omega) [zz,hd,hme,Tryz.f150]
    exact⟨m,hm,rfl⟩
  have hil':¬(i:Int)=(ps.length:Int)-1:=by omega
  have hne:ps.drop (i+1)≠[]:=fun e=>by have:=congrArg List.length e;simp at this;omega
  have hih:=ih (i+1) k m (by omega) (by omega) hk hm
  have hdd:wQ (ps.drop i) (ns.drop k)=p8 (wQ (ps.drop (i+1))) (ns.drop k):=by rw[hdp,zbe hne]
  obtain⟨y,hy⟩:∃y,y=wQ (ps.drop (i+1)) (ns.drop k):=⟨_,rfl⟩
  rw[<-hy]at hih
  rcases hf2 with hf|hf
  all_goals
   simp only[XI]at hf
   cases y with
   | true =>
    have hd:wQ (ps.drop i) (ns.drop k)=true:=by
     rw[hdd]
     cases hns:ns.drop k with
     | nil=>rw[p8,<-hns,<-hy]
     | cons a b=>rw[p8,<-hns,<-hy];rfl
    simp (disch:=omega) [zz,hip',hii,hil',hf,hgx,n1,n1',n2,n2',n3,n3',n4,n4',n5,n5',n6,n6',n7,n7',n8,n8',n9,n9',n10,n10']
    try (repeat with_reducible refine om ?_)
    refine qD (R:=fun r H'=>r=.av .bool (.b true)/\∃m',gY ps ns m'/\H'=QL b5 b6 b7 b8 N ps ns m') (QL b5 b6 b7 b8 N ps ns m) [] (by rw[List.append_nil];exact List.Perm.refl _) rfl (by simp[qI]) (by simp) ?_ ?_
    ·rw[vL]
     simpa[TV.er,AV.er,AV.ers]using hih
    rintro r H' ⟨rfl,m',hm',rfl⟩ _
    refine⟨QL b5 b6 b7 b8 N ps ns m',by rw[List.append_nil];exact HSub.refl _,?_⟩
    obtain⟨m2,hp1,hp2⟩:=zaa ps ns (i,k) false (fun e=>by cases e) m' hm'
    simp only[XI]at hp1
    rw[show QL b5 b6 b7 b8 N ps ns m'=[(b5,.var TsT (.sl .no (strs ps))),(b6,.var TsT (.sl .no (strs ns))),(b7,.var P3 (.map (some N))),(b8,.var .func (.fn 150 [.ptr b5 TsT [],.ptr b6 TsT [],.ptr b7 P3 [],.ptr b8 .func []])),(N,.map 201 4 (YN m'))] from rfl]
    simp (disch:=omega) [zz,hp1,n1,n1',n2,n2',n3,n3',n4,n4',n5,n5',n6,n6',n7,n7',n8,n8',n9,n9',n10,n10']
    simp (disch:=omega) [zz,hd,hme,Tryz.f150]
    exact⟨m2,hp2,rfl⟩
   | false =>
    simp (disch:=omega) [zz,hip',hii,hil',hf,hgx,n1,n1',n2,n2',n3,n3',n4,n4',n5,n5',n6,n6',n7,n7',n8,n8',n9,n9',n10,n10']
    try (repeat with_reducible refine om ?_)
    refine qD (R:=fun r H'=>r=.av .bool (.b false)/\∃m',gY ps ns m'/\H'=QL b5 b6 b7 b8 N ps ns m') (QL b5 b6 b7 b8 N ps ns m) [] (by rw[List.append_nil];exact List.Perm.refl _) rfl (by simp[qI]) (by simp) ?_ ?_
    ·rw[vL]
     simpa[TV.er,AV.er,AV.ers]using hih
    rintro r H' ⟨rfl,m',hm',rfl⟩ _
    refine⟨QL b5 b6 b7 b8 N ps ns m',by rw[List.append_nil];exact HSub.refl _,?_⟩
    rw[show QL b5 b6 b7 b8 N ps ns m'=[(b5,.var TsT (.sl .no (strs ps))),(b6,.var TsT (.sl .no (strs ns))),(b7,.var P3 (.map (some N))),(b8,.var .func (.fn 150 [.ptr b5 TsT [],.ptr b6 TsT [],.ptr b7 P3 [],.ptr b8 .func []])),(N,.map 201 4 (YN m'))] from rfl]
    by_cases hkn:k<ns.length
    rotate_left
    ·have hkn':¬(k:Int)<ns.length:=by omega
     have hd:wQ (ps.drop i) (ns.drop k)=false:=by
      rw[hdd,List.drop_of_length_le (l:=ns) (by omega),p8]
      rw[List.drop_of_length_le (l:=ns) (by omega)]at hy
      exact hy.symm
     obtain⟨m2,hp1,hp2⟩:=zaa ps ns (i,k) true (fun _=>hd) m' hm'
     simp only[XI]at hp1
     simp (disch:=omega) [zz,hkn',hp1,n1,n1',n2,n2',n3,n3',n4,n4',n5,n5',n6,n6',n7,n7',n8,n8',n9,n9',n10,n10']
     simp (disch:=omega) [zz,hd,hme,Tryz.f150]
     exact⟨m2,hp2,rfl⟩
    have hkn':(k:Int)<ns.length:=by omega
    have hd:wQ (ps.drop i) (ns.drop k)=wQ (ps.drop i) (ns.drop (k+1)):=by
     have e:wQ (ps.drop i) (ns.drop (k+1))=p8 (wQ (ps.drop (i+1))) (ns.drop (k+1)):=by rw[hdp,zbe hne]
     rw[hdd,e]
     rw[List.drop_eq_getElem_cons hkn]at hy |-
     rw[p8,<-hy,Bool.false_or]
    have hih2:=ih i (k+1) m' (by omega) hi (by omega) hm'
    rw[hd]
    obtain⟨y2,hy2⟩:∃y2,y2=wQ (ps.drop i) (ns.drop (k+1)):=⟨_,rfl⟩
    rw[<-hy2]at hih2 hd
    simp (disch:=omega) [zz,hkn',n1,n1',n2,n2',n3,n3',n4,n4',n5,n5',n6,n6',n7,n7',n8,n8',n9,n9',n10,n10']
    try (repeat with_reducible refine om ?_)
    refine qD (R:=fun r H'=>r=.av .bool (.b y2)/\∃m',gY ps ns m'/\H'=QL b5 b6 b7 b8 N ps ns m') (QL b5 b6 b7 b8 N ps ns m') [] (by rw[List.append_nil];exact List.Perm.refl _) rfl (by simp[qI]) (by simp) ?_ ?_
    ·rw[vL]
     simpa[TV.er,AV.er,AV.ers]using hih2
    rintro r H' ⟨rfl,m3,hm3,rfl⟩ _
    refine⟨QL b5 b6 b7 b8 N ps ns m3,by rw[List.append_nil];exact HSub.refl _,?_⟩
    rw[show QL b5 b6 b7 b8 N ps ns m3=[(b5,.var TsT (.sl .no (strs ps))),(b6,.var TsT (.sl .no (strs ns))),(b7,.var P3 (.map (some N))),(b8,.var .func (.fn 150 [.ptr b5 TsT [],.ptr b6 TsT [],.ptr b7 P3 [],.ptr b8 .func []])),(N,.map 201 4 (YN m3))] from rfl]
    obtain⟨m2,hp1,hp2⟩:=zaa ps ns (i,k) (!y2) (fun e=>by rw[hd];simpa using e) m3 hm3
    simp only[XI]at hp1
    cases y2 with
    | false =>
     simp only[Bool.not_false]at hp1
     simp (disch:=omega) [zz,hp1,n1,n1',n2,n2',n3,n3',n4,n4',n5,n5',n6,n6',n7,n7',n8,n8',n9,n9',n10,n10']
     simp (disch:=omega) [zz,<-hy2,hme,Tryz.f150]
     exact⟨m2,hp2,rfl⟩
    | true =>
     simp only[Bool.not_true]at hp1
     simp (disch:=omega) [zz,hp1,n1,n1',n2,n2',n3,n3',n4,n4',n5,n5',n6,n6',n7,n7',n8,n8',n9,n9',n10,n10']
     simp (disch:=omega) [zz,<-hy2,hme,Tryz.f150]
     exact⟨m2,hp2,rfl⟩
abbrev ztq:Cfg:=⟨fun n=>n==5||n==6||n==7||n==8,fun _=>false⟩
theorem zoI (p s:Txt) (hp:p.length<=1900000) (hs:s.length<=1900000):PC Tryz.prog 115 [.av .str (.s p),.av .str (.s s)] (.av .bool (.b (vP p s))):=by
 have hpl:=K4 47 p
 have hsl:=K4 47 s
 have hpe:∀x∈qE 47 p,x.length<=2000000:=fun x hx=>by have:=y6 47 p x hx;omega
 have hse:∀x∈qE 47 s,x.length<=2000000:=fun x hx=>by have:=y6 47 s x hx;omega
 refine zow Tryz.func115 ztq fun imm0 w0=>?_
 simp (disch:=omega) [zz]
 refine zcv (ziW p (by omega)) ?_
 cases h1:xD p
 ·simp (disch:=omega) [zz,Tryz.f115,vP,h1]
 simp (disch:=omega) [zz]
 refine zcv (XJ s (by omega)) ?_
 cases h2:jQ s
 ·simp (disch:=omega) [zz,Tryz.f115,vP,h1,h2]
 simp (disch:=omega) [zz]
 refine qG (GB p (by omega)) rfl rfl (by simp) (by simp[qM,coC,TV.er,AV.er]) ?_
 simp (disch:=omega) [zz]
 intro b5
 refine qG (GB s (by omega)) rfl rfl (by simp) (by simp[qM,coC,TV.er,AV.er]) ?_
 simp (disch:=omega) [zz]
 intro b6 q1 N q2 q3 b7 r1 r2 r3 b8 u1 u2 u3 u4
 have hd:=zpM b5 b6 b7 b8 N (qE 47 p) (qE 47 s) (by omega) (by omega) hpe hse _ 0 0 [] (Nat.lt_succ_self _) (by omega) (by omega) (by intro x hx;cases hx)
 rw[List.drop_zero,List.drop_zero]at hd
 refine qD (R:=fun r H'=>r=.av .bool (.b (wQ (qE 47 p) (qE 47 s)))/\∃m',gY (qE 47 p) (qE 47 s) m'/\H'=QL b5 b6 b7 b8 N (qE 47 p) (qE 47 s) m') (QL b5 b6 b7 b8 N (qE 47 p) (qE 47 s) []) [] ?_ rfl (by simp[qI]) (by simp) ?_ ?_
 ·refine List.perm_iff_count.2 fun a=>?_
  simp only[QL,xK,zsm,zqx,YN,TsT,P3,List.map_nil,List.count_append,List.count_cons,List.count_nil]
  omega
 ·rw[vL]
  refine q7.args (by simpa using hd) (by simp[qM,coC,TV.er,AV.er,AV.ers])
 rintro r H' ⟨rfl,m',hm',rfl⟩ _
 refine⟨_,by rw[List.append_nil];exact HSub.refl _,?_⟩
 simp (disch:=omega) [zz,Tryz.f115,vP,h1,h2]
def XK (l:List CmdV):List AV:=l.map zX
@[simp] theorem zdJ (c:CmdV):(zX c).er=zX c:=by simp[zX,AV.er,AV.ers,AV.ers_eq,strs,Function.comp_def]
@[simp] theorem zsa (l:List CmdV):AV.ers (XK l)=XK l:=by simp[XK,AV.ers_eq,Function.comp_def]
abbrev ziy:TyD:=.slice 171
noncomputable def bcO (l:List CmdV):HObj:=.var ziy (.sl .no (XK l))
theorem zm8 (l:List CmdV):(bcO l).er=bcO l:=by simp[bcO,HObj.er_var,AV.erk]
abbrev zts:Cfg:=⟨fun n=>n==1,fun _=>false⟩
theorem zoy (l:List CmdV):q7 Tryz.prog 110 [.av ziy (.sl .no (XK l))] [] fun r H'=>∃c,r=.av .func (.fn 138 [.ptr c ziy []])/\H'=[(c,bcO l)]:=by
 refine zov Tryz.func110 zts fun imm0 w0=>?_
 simp (disch:=omega) [zz]
 intro c
 simp (disch:=omega) [zz,Tryz.f110,bcO,AV.ers]
theorem zk5 {G:Nat->q8->Prop} (y c:Nat) (l:List CmdV) (hl:l.length<=1000000000) (hGe:∀k H,G k H->H.er=H)
  (hY:∀k (hk:k<l.length) H,G k H->YC Tryz.prog y [.av (.int .i64) (.i .i64 (l.length-1-k:Nat)),.av ZR (zX (l[l.length-1-k]'(by omega)))] H fun r H'=>r=.av .bool (.b true)/\G (k+1) H') :
  ∀H,G 0 H->q7 Tryz.prog 138 [.av .func (.yl y),.av .ptr (.ptr c ziy [])] ((c,bcO l)::H)
   fun r H'=>r=.tup []/\∃H1,G l.length H1/\H'=(c,bcO l)::H1:=by
 intro H hG
 have hbe:=zm8 l
 have hsl:∀x:List CmdV,(XK x).length=x.length:=fun x=>by simp[XK]
 refine zov Tryz.func138 cf0 fun imm0 w0=>?_
 simp (disch:=omega) [zz,bcO,hsl]
 refine AT.loop' (α:=Nat × q8) (fun p=>St.of [(0,.av .func (.yl y)),(1,.av .ptr (.ptr c ziy [])),(3,.av (.int .i64) (.i .i64 ((l.length:Int)-1-p.1)))] [] (fun _=>0) ((c,bcO l)::p.2))
  (fun p=>p.1<=l.length/\G p.1 p.2) (fun p=>l.length-p.1) (0,H) ?_ ?_ ?_
 ·apply Le.of<;>simp[zA,qF,bcO]<;>try omega
 ·exact⟨by omega,hG⟩
 rintro⟨k,H1⟩ ⟨hk,hG1⟩ KL hN hE
 simp only at hk hG1 hN
 refine zrd cf0 ?_
 by_cases hlt:k<l.length
 ·obtain⟨i,hi⟩:∃i:Nat,i=l.length-1-k:=⟨_,rfl⟩
  have hii:(l.length:Int)-1-k=i:=by omega
  have hil:i<l.length:=by omega
  have hgi:(XK l)[i]?=some (zX l[i]):=by simp[XK,List.getElem?_eq_getElem hil]
  rw[hii]
  have hge:(0:Int)<=i:=by omega
  simp (disch:=omega) [zz,hge,bcO,hgi,hsl,hil]
  refine WK (R:=fun r H'=>r=.av .bool (.b true)/\G (k+1) H') H1 [(c,bcO l)] (List.perm_append_comm (l₁:=[_])) (by simp[qI]) ?_ ?_
  ·rw[hGe _ _ hG1]
   have:=hY k hlt _ hG1
   simpa[TV.er,<-hi]using this
  rintro r H2 ⟨rfl,hG2⟩ _
  refine⟨(c,bcO l)::H2,HSub.of_perm (List.perm_append_comm (l₂:=[_])),?_⟩
  simp (disch:=omega) [zz]
  refine hN _ (k+1,H2) ?_ ⟨by omega,hG2⟩ (by simp only;omega)
  apply Le.of<;>simp[zA,qF,bcO]<;>try omega
 ·have hge:(l.length:Int)-1-k=-1:=by omega
  rw[hge]
  simp (disch:=omega) [zz]
  refine hE _ _ (by simp) ?_
  have hkl:k=l.length:=by omega
  subst hkl
  have hH:=hGe _ _ hG1
  simp (disch:=omega) [zz,Tryz.f138,hH,hbe]
  exact⟨hG1,by first|rfl|simp[bcO]⟩
end
section
variable [Sel]
theorem x5 {l x:List UInt8} (h:x∈qZ l):x.length<=l.length:=by
 unfold qZ at h
 split at h
 ·cases h
 ·have h1:=y6 10 (K5 l [10]) x h
  have h2:=VD l [10]
  omega
end
section
variable [Sel] [SelPow] [SelMax]
noncomputable def zbW (t:Txt):TV:=match jB t with
 | .ok l=>.tup [(.slice 171,.sl .no (XK l)),(.int .i64,.i .i64 0),(.int .i64,.i .i64 0)]
 | .error (e,n)=>.tup [(.slice 171,.sl .no []),(.int .i64,.i .i64 e),(.int .i64,.i .i64 n)]
def tkC (n:Nat):Ab.Tok:=if n=0 then .full else .own 44 n
theorem dM:∀(ls:List Txt) (i:Nat) (l:List CmdV),QE i ls=.ok l->l.length<=ls.length
 | [],i,l,h=>by cases h;simp
 | s::r,i,l,h=>by
  unfold QE at h
  split at h
  ·cases h
  ·have:=dM r _ _ h;simp;omega
  ·split at h
   ·rename_i l' hl'
    cases h
    have:=dM r _ _ hl';simp;omega
   ·cases h
theorem zgq (a b:List CmdV):XK (a++b)=XK a++XK b:=by simp[XK]
@[simp] theorem zsY (a:List CmdV):(XK a).length=a.length:=by simp[XK]
@[simp] theorem zrV (l:List CmdV):AV.erks (XK l)=XK l:=by
 rw[AV.erks_eq]
 simp only[XK,List.map_map]
 exact List.map_congr_left fun c _=>kX _ (zdJ c)
def CmI (ls:List Txt) (k:Nat) (acc:List CmdV):Prop:=k<=ls.length/\acc.length<=k/\QE 0 ls=match QE k (ls.drop k)with
 | .ok l=>.ok (acc++l)
 | .error e=>.error e
theorem CmI.start (ls:List Txt):CmI ls 0 []:=⟨by omega,by simp,by rw[List.drop_zero];cases QE 0 ls<;>rfl⟩
theorem CmI.pass {ls:List Txt} {k:Nat} {acc:List CmdV} (h:CmI ls k acc) (hk:k<ls.length) (hr:JF ls[k]=some none):CmI ls (k+1) acc:=by
 obtain⟨_,h1,h2⟩:=h
 refine⟨by omega,by omega,?_⟩
 rw[h2,List.drop_eq_getElem_cons hk,QE,hr]
theorem CmI.more {ls:List Txt} {k:Nat} {acc:List CmdV} (h:CmI ls k acc) (hk:k<ls.length) {c:CmdV} (hr:JF ls[k]=some (some c)):CmI ls (k+1) (acc++[c]):=by
 obtain⟨_,h1,h2⟩:=h
 refine⟨by omega,by simp;omega,?_⟩
 rw[h2,List.drop_eq_getElem_cons hk,QE,hr]
 simp only
 cases QE (k+1) (ls.drop (k+1))<;>simp
theorem CmI.bad {ls:List Txt} {k:Nat} {acc:List CmdV} (h:CmI ls k acc) (hk:k<ls.length) (hr:JF ls[k]=none):QE 0 ls=.error (k+1):=by
 obtain⟨_,h1,h2⟩:=h
 rw[h2,List.drop_eq_getElem_cons hk,QE,hr]
theorem CmI.end_ {ls:List Txt} {acc:List CmdV} (h:CmI ls ls.length acc):QE 0 ls=.ok acc:=by
 obtain⟨_,h1,h2⟩:=h
 rw[h2,List.drop_length,QE]
 simp
abbrev zsA:Cfg:=⟨fun _=>false,fun n=>n==44⟩
theorem cQ (t:Txt) (hl:t.length<=1000000):PC Tryz.prog 109 [.av .str (.s t)] (zbW t):=by
 have hpc:=zaG t hl
 have hll:=ZW t
 have heach:∀x∈qZ t,x.length<=1000000:=fun x hx=>by have:=x5 hx;omega
 obtain⟨V,hV⟩:∃V,V=zbW t:=⟨_,rfl⟩
 rw[<-hV]
 unfold zbW jB at hV
 obtain⟨ls,hls⟩:∃ls,ls=qZ t:=⟨_,rfl⟩
 rw[<-hls]at hpc hll heach hV
 refine zow Tryz.func109 zsA fun imm0 w0=>?_
 simp (disch:=omega) [zz]
 refine zcv hpc ?_
 by_cases hbig:65536<t.length
 ·have hbig':(65536:Int)<t.length:=by omega
  rw[if_pos (.inl hbig)]at hV
  simp (disch:=omega) [zz,hbig',Tryz.f109,hV]
 have hbig':¬(65536:Int)<t.length:=by omega
 by_cases hmany:400<ls.length
 ·have hmany':(400:Int)<ls.length:=by omega
  rw[if_pos (.inr hmany)]at hV
  simp (disch:=omega) [zz,hbig',hmany',strs,Tryz.f109,hV]
 have hmany':¬(400:Int)<ls.length:=by omega
 rw[if_neg (by omega)]at hV
 simp (disch:=omega) [zz,hbig',hmany',strs]
 refine AT.loop' (α:=Nat × List CmdV) (fun x=>St.of [(6,.av (.slice 171) (.sl (tkC x.2.length) (XK x.2))),(21,.av (.slice 9) (.sl .no (strs ls))),(22,.av (.int .i64) (.i .i64 ls.length)),(23,.av (.int .i64) (.i .i64 x.1))] [] (fun j=>if j=44 then x.2.length else 0) [])
  (fun x=>CmI ls x.1 x.2) (fun x=>ls.length-x.1) (0,[]) ?_ ?_ ?_
 ·apply Le.of<;>simp[zA,qF,tkC,XK,strs]<;>try omega
 ·exact CmI.start ls
 rintro⟨k,acc⟩ hI KL hN hE
 simp only at hI hN
 obtain⟨hk,hak,_⟩:=id hI
 refine zrd zsA ?_
 by_cases hlt:k<ls.length
 ·have hlt':(k:Int)<ls.length:=by omega
  have hg:(strs ls)[k]?=some (.s ls[k]):=by simp[strs,List.getElem?_eq_getElem hlt]
  have hxl:=heach _ (List.getElem_mem hlt)
  obtain⟨x,hx⟩:∃x,x=ls[k]:=⟨_,rfl⟩
  have hpass:=hI.pass hlt
  have hmore:=fun c=>hI.more hlt (c:=c)
  have hbad:=hI.bad hlt
  rw[<-hx]at hg hxl hpass hmore hbad
  simp (disch:=omega) [zz,hlt',hg]
  refine qD (R:=XL (JF x)) [] [] (by simp) rfl (by simp[qI]) (by simp) ?_ ?_
  ·simpa[TV.er,AV.er]using zon x hxl
  intro r H' hR hnd
  cases hrc:JF x with
  | none =>
   rw[hrc]at hR
   obtain⟨rfl,rfl⟩:=hR
   rw[hbad hrc]at hV
   refine⟨[],HSub.refl _,?_⟩
   simp (disch:=omega) [zz]
   refine hE _ _ (by simp) ?_
   simp (disch:=omega) [zz,Tryz.f109,hV]
  | some oc =>
   cases oc with
   | none =>
    rw[hrc]at hR
    obtain⟨rfl,rfl⟩:=hR
    refine⟨[],HSub.refl _,?_⟩
    simp (disch:=omega) [zz]
    refine hN _ (k+1,acc) ?_ (hpass hrc) (by simp only;omega)
    apply Le.of<;>simp[zA,qF,qJ]<;>try omega
   | some c =>
    rw[hrc]at hR
    obtain⟨b,rfl,rfl⟩:=hR
    refine⟨_,HSub.refl _,?_⟩
    have hby:Tryz.prog.bytesOf 171=40:=by kernel_rfl
    by_cases ha:acc.length=0
    ·simp (disch:=omega) [zz,w5,tkC,ha]
     simp (disch:=omega) [zz,y4,hby]
     (repeat with_reducible refine om ?_)
     refine hN _ (k+1,acc++[c]) ?_ (hmore c hrc) (by simp only;omega)
     refine Le.ofP ?_ ?_ ?_ ?_ (HSub.of_sub (List.nil_sublist _))<;>simp[zA,qF,tkC,ha,zgq]
     all_goals first|(left;rfl)|(intro j;by_cases hj:j=44<;>simp[hj])
    ·simp (disch:=omega) [zz,w5,tkC,ha]
     simp (disch:=omega) [zz,y4,hby]
     (repeat with_reducible refine om ?_)
     refine hN _ (k+1,acc++[c]) ?_ (hmore c hrc) (by simp only;omega)
     refine Le.ofP ?_ ?_ ?_ ?_ (HSub.of_sub (List.nil_sublist _))<;>simp[zA,qF,tkC,ha,zgq]
     all_goals first|(left;rfl)|(intro j;by_cases hj:j=44<;>simp[hj])
 have hkl:k=ls.length:=by omega
 subst hkl
 have hend:=hI.end_
 rw[hend]at hV
 simp (disch:=omega) [zz]
 refine hE _ _ (by simp) ?_
 simp (disch:=omega) [zz,Tryz.f109,hV]
end
end Go.Proofs.YtfkcpballfhddaaGreatDoor
