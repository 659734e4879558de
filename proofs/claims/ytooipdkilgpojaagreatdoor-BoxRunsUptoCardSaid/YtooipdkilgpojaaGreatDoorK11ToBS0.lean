/- A tool that goes on: a line of a file that is scanned. No condition beyond each theorem's own. -/
import Derived.Test.YtooipdkilgpojaaGreatDoorKCToK10
import Derived.Test.YtooipdkilgpojaaGreatDoorP18ToKBs
import Derived.Test.YtooipdkilgpojaaGreatDoorB0
import Derived.Test.YtooipdkilgpojaaGreatDoorKIToK4
set_option linter.unusedSimpArgs false
set_option linter.unusedVariables false
set_option linter.unusedSectionVars false
section
set_option maxRecDepth 100000
namespace Go.Proofs.YtooipdkilgpojaaGreatDoor
open Go Go.Ab
open Classical
variable [Sel] [SelPow] [SelMax]
theorem za7 (p:Txt):∀l:List Txt,yY (.s p) (QY l)=if p∈l then some (.b true) else none
 | []=>rfl
 | x::l=>by
  have ih:=za7 p l
  simp only[QY,List.map_cons,yY,AV.s.injEq,List.mem_cons]at ih ⊢
  by_cases h:x=p
  ·simp[h]
  ·have h':¬p=x:=fun e=>h e.symm
   simp only[h,h',if_false,false_or]
   exact ih
theorem zl2 (l:List Txt):List.map (fun p:AV × AV=>(p.1.er,p.2.er)) (QY l)=QY l:=by simp[QY,AV.er,Function.comp_def]
abbrev zsi:Cfg:=⟨fun _=>false,fun n=>n==40⟩
set_option maxHeartbeats 16000000 in
theorem zi5 (R Q bs bw br bm:Nat) (s w:Txt) {r:y3} {p:zY} (hp:p.OK R r) (hq:p.q=some Q) (hne:bs≠bw) (hbs:(bs,zF s)∈p.S) (hbw:(bw,zF w)∈p.S) (hbr:(br,zA R)∈p.S) (hbm:(bm,JU Q)∈p.S) (hs:s.length≤1000000) (hb:RB r) :
  q7 Tryz.prog 130 [.av .ptr (.ptr bs .str []),.av .ptr (.ptr bw .str []),.av .ptr (.ptr br .ptr []),.av .ptr (.ptr bm YR [])] (p.core R r) fun y H'=>y=.tup []∧z6 R (Z1 s w r) H':=by
 have hH:z6 R r (p.core R r):=⟨p,hp,rfl⟩
 have her:=hH.er
 refine q7.nodup fun hnd=>?_
 have mk:∀ {x},x∈p.S→x∈p.core R r:=fun h=>zY.memS h
 have e1:bs≠br:=Y4 hnd (mk hbs) (mk hbr) (by simp[zF,zA])
 have e2:bs≠bm:=Y4 hnd (mk hbs) (mk hbm) (by simp[JU,zF])
 have e3:bw≠br:=Y4 hnd (mk hbw) (mk hbr) (by simp[zA,zF])
 have e4:bw≠bm:=Y4 hnd (mk hbw) (mk hbm) (by simp[JU,zF])
 have e5:br≠bm:=Y4 hnd (mk hbr) (mk hbm) (by simp[JU,zA])
 obtain⟨rest0,hpm0⟩:=znf hbs hbw hbr hne e1 e3
 have hbm0:(bm,JU Q)∈rest0:=by
  have:=hpm0.mem_iff.1 hbm
  simp only[List.mem_cons,Prod.mk.injEq]at this
  rcases this with⟨h,_⟩|⟨h,_⟩|⟨h,_⟩|h
  ·exact absurd h.symm e2
  ·exact absurd h.symm e4
  ·exact absurd h.symm e5
  ·exact h
 obtain⟨rest,hpm⟩:=GZ hbm0
 have hQH:p.QH=[(Q,.map 9 4 (QY r.seen))]:=by
  rcases hp.seen with⟨h1,_⟩|⟨Q',h1,h2⟩
  ·rw[hq]at h1;cases h1
  ·rw[hq]at h1;cases h1;exact h2
 have hpm2:(p.core R r).Perm ((bs,zF s)::(bw,zF w)::(br,zA R)::(bm,JU Q)::(Q,.map 9 4 (QY r.seen))::(R,qW p.ta (zS r.env) r.buf p.K r.asks r.waits r.over)::(p.K,.map 9 57 (knE r.known))::(p.TA++rest)):=by
  refine List.perm_iff_count.2 fun a=>?_
  have h1:=hpm0.count_eq a
  have h2:=hpm.count_eq a
  simp only[zY.core,hQH,List.count_append,List.count_cons,List.count_nil]at h1 h2 ⊢
  omega
 have hnd2:=((hpm2.map Prod.fst).nodup_iff).1 hnd
 simp only[List.map_cons,List.nodup_cons,List.mem_cons,not_or]at hnd2
 obtain⟨⟨g1,g2,g3,g4,g5,_⟩,⟨h2,h3,h4,h5,_⟩,⟨i3,i4,i5,_⟩,⟨j4,j5,_⟩,⟨k5,_⟩,_⟩:=hnd2
 have sy:∀ {a b:Nat},¬a=b→¬b=a:=fun h e=>h e.symm
 have g1':=sy g1;have g2':=sy g2;have g3':=sy g3;have g4':=sy g4;have g5':=sy g5
 have h2':=sy h2;have h3':=sy h3;have h4':=sy h4;have h5':=sy h5;have i3':=sy i3;have i4':=sy i4;have i5':=sy i5;have j4':=sy j4;have j5':=sy j5;have k5':=sy k5
 have hpm3:=hpm2.symm
 have hmf:∀q,yY (.s q) (QY r.seen)=if q∈r.seen then some (.b true) else none:=fun q=>za7 q _
 refine q7.sub (R:=fun y H'=>y=.tup []∧∃H2,Ab.HSub H2 H'∧z6 R (Z1 s w r) H2) ?_ fun y H' ⟨h1,H2,h2,h3⟩ _=>⟨H2,h2,h1,h3⟩
 refine q7.perm hpm2 ?_
 obtain⟨ws,hws⟩:∃ws,zR s=ws:=⟨_,rfl⟩
 have heach:∀w∈ws,w.length≤s.length:=fun w hw=>by
  rw[←hws]at hw
  have:=ZI hw
  simpa using this.2
 have hwo:=zdn s hs
 rw[hws]at hwo
 have hl:=Z1.eq_1 s w r
 rw[hws]at hl
 refine zov Tryz.func130 zsi fun imm0 w0=>?_
 simp (disch:=omega) [zz,zF,zA,JU,qW,g1,g2,g3,g1',g2',g3']
 refine zcv hwo ?_
 have hadd:=zjg R (s++[10]) hH hb.buf (by simp;omega)
 match ws,hl,heach with
 | [],hl,_ =>
  have hl':Z1 s w r=wW (s++[10]) r:=hl
  rw[hl']
  simp (disch:=omega) [zz,strs,g1,g2,g3,g4,g5,h2,h3,h4,h5,i3,i4,i5,j4,j5,k5,g1',g2',g3',g4',g5',h2',h3',h4',h5',i3',i4',i5',j4',j5',k5']
  (repeat with_reducible refine om ?_)
  refine qE (R:=fun y H'=>y=.tup []∧z6 R (wW (s++[10]) r) H') (p.core R r) [] (by simpa[zF,zA,JU,qW]using hpm3) rfl (by simp[qQ]) (by simp) ?_ ?_
  ·rw[her];simpa[TV.er,AV.er]using hadd
  rintro y H' ⟨rfl,hh⟩ _
  refine⟨H',by simpa using HSub.refl _,?_⟩
  have hhe:=hh.er
  simp (disch:=omega) [zz,Tryz.f130,hhe]
  exact⟨H',HSub.refl _,hh⟩
 | [a],hl,_ =>
  have hl':Z1 s w r=wW (s++[10]) r:=hl
  rw[hl']
  simp (disch:=omega) [zz,strs,g1,g2,g3,g4,g5,h2,h3,h4,h5,i3,i4,i5,j4,j5,k5,g1',g2',g3',g4',g5',h2',h3',h4',h5',i3',i4',i5',j4',j5',k5']
  (repeat with_reducible refine om ?_)
  refine qE (R:=fun y H'=>y=.tup []∧z6 R (wW (s++[10]) r) H') (p.core R r) [] (by simpa[zF,zA,JU,qW]using hpm3) rfl (by simp[qQ]) (by simp) ?_ ?_
  ·rw[her];simpa[TV.er,AV.er]using hadd
  rintro y H' ⟨rfl,hh⟩ _
  refine⟨H',by simpa using HSub.refl _,?_⟩
  have hhe:=hh.er
  simp (disch:=omega) [zz,Tryz.f130,hhe]
  exact⟨H',HSub.refl _,hh⟩
 | a::b::c::t,hl,_ =>
  have hl':Z1 s w r=wW (s++[10]) r:=hl
  rw[hl']
  have hz:¬(t.length:Int)+1+1+1=2:=by omega
  simp (disch:=omega) [zz,strs,hz,g1,g2,g3,g4,g5,h2,h3,h4,h5,i3,i4,i5,j4,j5,k5,g1',g2',g3',g4',g5',h2',h3',h4',h5',i3',i4',i5',j4',j5',k5']
  (repeat with_reducible refine om ?_)
  refine qE (R:=fun y H'=>y=.tup []∧z6 R (wW (s++[10]) r) H') (p.core R r) [] (by simpa[zF,zA,JU,qW]using hpm3) rfl (by simp[qQ]) (by simp) ?_ ?_
  ·rw[her];simpa[TV.er,AV.er]using hadd
  rintro y H' ⟨rfl,hh⟩ _
  refine⟨H',by simpa using HSub.refl _,?_⟩
  have hhe:=hh.er
  simp (disch:=omega) [zz,Tryz.f130,hhe]
  exact⟨H',HSub.refl _,hh⟩
 | [a,q],hl,heach =>
  have hl':Z1 s w r=if a≠w∨yV q=false then wW (s++[10]) r else if q∈r.seen then r else ZL q w r:=hl
  have hql:=heach q (by simp)
  by_cases haw:a=w
  rotate_left
  ·rw[if_pos (.inl haw)]at hl'
   rw[hl']
   simp (disch:=omega) [zz,strs,haw,g1,g2,g3,g4,g5,h2,h3,h4,h5,i3,i4,i5,j4,j5,k5,g1',g2',g3',g4',g5',h2',h3',h4',h5',i3',i4',i5',j4',j5',k5']
   (repeat with_reducible refine om ?_)
   refine qE (R:=fun y H'=>y=.tup []∧z6 R (wW (s++[10]) r) H') (p.core R r) [] (by simpa[zF,zA,JU,qW]using hpm3) rfl (by simp[qQ]) (by simp) ?_ ?_
   ·rw[her];simpa[TV.er,AV.er]using hadd
   rintro y H' ⟨rfl,hh⟩ _
   refine⟨H',by simpa using HSub.refl _,?_⟩
   have hhe:=hh.er
   simp (disch:=omega) [zz,Tryz.f130,hhe]
   exact⟨H',HSub.refl _,hh⟩
  subst haw
  simp (disch:=omega) [zz,strs,g1,g2,g3,g4,g5,h2,h3,h4,h5,i3,i4,i5,j4,j5,k5,g1',g2',g3',g4',g5',h2',h3',h4',h5',i3',i4',i5',j4',j5',k5']
  (repeat with_reducible refine om ?_)
  refine jC (DL q (by omega)) rfl rfl (by simp) (by simp[qS,TV.er,AV.er]) ?_
  cases hmv:yV q
  ·rw[if_pos (.inr hmv)]at hl'
   rw[hl']
   simp (disch:=omega) [zz,hmv,g1,g2,g3,g4,g5,h2,h3,h4,h5,i3,i4,i5,j4,j5,k5,g1',g2',g3',g4',g5',h2',h3',h4',h5',i3',i4',i5',j4',j5',k5']
   (repeat with_reducible refine om ?_)
   refine qE (R:=fun y H'=>y=.tup []∧z6 R (wW (s++[10]) r) H') (p.core R r) [] (by simpa[zF,zA,JU,qW]using hpm3) rfl (by simp[qQ]) (by simp) ?_ ?_
   ·rw[her];simpa[TV.er,AV.er]using hadd
   rintro y H' ⟨rfl,hh⟩ _
   refine⟨H',by simpa using HSub.refl _,?_⟩
   have hhe:=hh.er
   simp (disch:=omega) [zz,Tryz.f130,hhe]
   exact⟨H',HSub.refl _,hh⟩
  rw[if_neg (by simp[hmv])]at hl'
  by_cases hse:q∈r.seen
  ·rw[if_pos hse]at hl'
   rw[hl']
   simp (disch:=omega) [zz,hmv,hmf,hse,g1,g2,g3,g4,g5,h2,h3,h4,h5,i3,i4,i5,j4,j5,k5,g1',g2',g3',g4',g5',h2',h3',h4',h5',i3',i4',i5',j4',j5',k5']
   (repeat with_reducible refine om ?_)
   obtain⟨c1,c2⟩:=hp.todo.er hp.tds
   have c3:q8.er rest=rest:=WW.2 fun z hz=>WW.1 (VD hpm2 her) z (by simp[hz])
   rw[c1,c2,c3,zl2,zbP,zV,Q5]
   exact⟨p.core R r,HSub.of_perm (by simpa[zF,zA,JU,qW]using hpm3),hH⟩
  ·rw[if_neg hse]at hl'
   rw[hl']
   simp (disch:=omega) [zz,hmv,hmf,hse,g1,g2,g3,g4,g5,h2,h3,h4,h5,i3,i4,i5,j4,j5,k5,g1',g2',g3',g4',g5',h2',h3',h4',h5',i3',i4',i5',j4',j5',k5']
   (repeat with_reducible refine om ?_)
   refine qE (R:=fun y H'=>y=.tup []∧z6 R (ZL q a r) H') (p.core R r) [] (by simpa[zF,zA,JU,qW]using hpm3) rfl (by simp[qQ]) (by simp) ?_ ?_
   ·rw[her];simpa[TV.er,AV.er]using zgl R Q q a hp hq hb hse
   rintro y H' ⟨rfl,hh⟩ _
   refine⟨H',by simpa using HSub.refl _,?_⟩
   have hhe:=hh.er
   simp (disch:=omega) [zz,Tryz.f130,hhe]
   exact⟨H',HSub.refl _,hh⟩
def KF (ws:List Txt) (v:AV) (H:q8):Prop:=(ws=[]∧v=.sl .no []∧H=[])∨∃b cap j,JK j∧v=.msl b 9 0 ws.length cap∧ws.length+j.length=cap∧H=[(b,.var (.arr cap 9) (.agg (strs ws++j)))]
theorem VW (l:List Txt):AV.erks (strs l)=strs l:=by simp[strs,AV.erks_eq,AV.erk,Function.comp_def]
theorem qX (l:List Txt):(strs l).length=l.length:=by simp[strs]
theorem yH (p:List Txt) (k:Nat) (h:k<p.length):(strs p)[k]?=some (.s p[k]):=by simp[strs,List.getElem?_eq_getElem h]
theorem YT (p:List Txt) (j:List AV) (k:Nat) (h:k<p.length):(strs p++j)[k]?=some (.s p[k]):=by
 rw[List.getElem?_append_left (by rw[qX];exact h),yH p k h]
theorem KF.er {ws:List Txt} {v:AV} {H:q8} (h:KF ws v H):H.er=H∧v.er=v:=by
 rcases h with⟨_,rfl,rfl⟩|⟨b,cap,j,hj,rfl,_,rfl⟩
 ·exact⟨rfl,rfl⟩
 ·refine⟨?_,rfl⟩
  simp only[q8.er_cons,q8.er_nil,HObj.er_var,AV.erk,uC,VW]
  rw[show AV.erks j=j from hj]
theorem KF.of {ws:List Txt} {v:TV} {H:q8} (h:D9 ws v H):∃x,v=.av (.slice 9) x∧KF ws x H:=by
 rcases h with⟨rfl,rfl,rfl⟩|⟨b,rfl,rfl⟩
 ·exact⟨_,rfl,.inl ⟨rfl,rfl,rfl⟩⟩
 ·exact⟨_,rfl,.inr ⟨b,_,[],JK.nil,rfl,by simp,by simp⟩⟩
def jF (ws:List Txt):Txt:=ws.flatMap (·++[10])
theorem zfc (ws:List Txt) (k:Nat) (h:k<ws.length):jF (ws.take (k+1))=jF (ws.take k)++(ws[k]++[10]):=by
 rw[jF,List.take_succ_eq_append_getElem h,List.flatMap_append]
 simp[jF]
theorem UH (ws:List Txt) (k:Nat):(jF (ws.take k)).length≤(jF ws).length:=by
 conv=>rhs;rw[←List.take_append_drop k ws,jF,List.flatMap_append]
 simp[jF]
abbrev zmK:Cfg:=⟨fun n=>n==4,fun n=>n==4⟩
set_option maxHeartbeats 8000000 in
theorem X5 (R:Nat) (ws:List Txt) (v:AV) (rowH:q8) (hrow:KF ws v rowH) (hl:(jF ws).length≤1000000000) (hn:ws.length≤1000000000) (ta ea:AV) (buf:Txt) (K:Nat) (asks:Txt) (waits:Bool) (over:DoV) (h1:ta.erk=ta) (h2:ea.erk=ea) :
  q7 Tryz.prog 131 [.av .ptr (.ptr R kQ []),.av (.slice 9) v] ((R,qW ta ea buf K asks waits over)::rowH) fun r H'=>r=.tup []∧H'=[(R,if 65536<(jF ws).length then qW ta ea [] K asks waits ⟨4,[],[],6⟩ else qW ta ea (jF ws) K asks waits over)]:=by
 obtain⟨hrer,hver⟩:=hrow.er
 obtain⟨E,hE⟩:∃E,E=if 65536<(jF ws).length then qW ta ea [] K asks waits ⟨4,[],[],6⟩ else qW ta ea (jF ws) K asks waits over:=⟨_,rfl⟩
 rw[←hE]
 have hadd:=ziH R (jF ws) ta ea [] K asks waits over h1 h2 (by simp) (by omega)
 have hE2:(if 65536<([]:Txt).length+(jF ws).length then qW ta ea [] K asks waits ⟨4,[],[],6⟩ else qW ta ea ([]++jF ws) K asks waits over)=E:=by rw[hE];simp
 rw[hE2]at hadd
 have heo:∀buf,(qW ta ea buf K asks waits over).er=qW ta ea buf K asks waits over:=fun buf=>ZA h1 h2
 have hEe:E.er=E:=by rw[hE];split<;>exact ZA h1 h2
 refine q7.nodup fun hnd=>?_
 refine q7.sub (R:=fun y H'=>y=.tup []∧∃H2,Ab.HSub H2 H'∧H2=[(R,E)]) ?_ fun y H' ⟨h1,H2,h2,h3⟩ _=>⟨H2,h2,h1,h3⟩
 rcases hrow with⟨hw,hv,hH⟩|⟨T,cap,j,hj,hv,hc,hH⟩
 ·subst hw hv hH
  refine zov Tryz.func131 zmK fun imm0 w0=>?_
  simp (disch:=omega) [zz]
  intro b nb
  have nb':¬R=b:=fun e=>nb e.symm
  refine AT.loop' (α:=Nat × q8) (fun x=>St.of [(0,.av .ptr (.ptr R kQ [])),(4,.av .ptr (.ptr b QR [])),(7,.av (.slice 9) (.sl .no [])),(8,.av (.int .i64) (.i .i64 ([]:List Txt).length)),(9,.av (.int .i64) (.i .i64 x.1))] [] (fun _=>0) ((R,qW ta ea buf K asks waits over)::x.2))
   (fun x=>x.1≤([]:List Txt).length∧BS b (jF (([]:List Txt).take x.1)) x.2) (fun x=>([]:List Txt).length-x.1) (0,[(b,.var QR (.agg [.nilptr,.nsl]))]) ?_ ?_ ?_
  ·refine Le.ofP ?_ ?_ ?_ ?_ (HSub.of_perm ?_)
   rotate_right
   ·refine List.perm_iff_count.2 fun a=>?_
    simp only[List.count_cons,List.count_nil,QR]
    omega
   all_goals simp[qU,qG]
  ·exact⟨by omega,.fresh _ (.inl rfl) rfl⟩
  rintro⟨k,H⟩ ⟨hk,hB⟩ KL hN hE
  simp only at hk hB hN
  refine qM (cf:=zmK) laid mixed _ _ _ (by kernel_rfl) ?_
  have htl:=UH ([]:List Txt) k
  have hBe:=hB.er
  have hkl:k=0:=by simpa using hk
  subst hkl
  simp (disch:=omega) [zz]
  refine hE _ _ (by simp) ?_
  rw[List.take_of_length_le (by simp)]at hB
  simp (disch:=omega) [zz,qW]
  refine qE (R:=fun r H'=>r=.av .str (.s (jF ([]:List Txt)))) H [(R,qW ta ea [] K asks waits over)] (by simpa[qW]using List.perm_append_comm (l₁:=[_])) rfl (by simp[qQ]) (by simp) ?_ ?_
  ·rw[hBe]
   have:=zav b (jF ([]:List Txt)) H hB (by omega)
   simpa[TV.er,AV.er]using this
  rintro r H1 rfl _
  refine⟨_,HSub.of_sub (List.sublist_append_right _ _),?_⟩
  simp (disch:=omega) [zz]
  refine qE (R:=fun y H'=>y=.tup []∧H'=[(R,E)]) [(R,qW ta ea [] K asks waits over)] [] (by simp) rfl (by simp[qQ]) (by simp) ?_ ?_
  ·rw[show q8.er [(R,qW ta ea [] K asks waits over)]=[(R,qW ta ea [] K asks waits over)] by simp[q8.er_cons,heo]]
   simpa[TV.er,AV.er]using hadd
  rintro y H' ⟨rfl,rfl⟩ _
  refine⟨_,HSub.refl _,?_⟩
  simp (disch:=omega) [zz,Tryz.f131,hEe]
  exact HSub.refl _
 ·subst hv hH
  simp[q8.keys]at hnd
  have nRT:¬R=T:=hnd
  have nRT':¬T=R:=fun e=>hnd e.symm
  refine zov Tryz.func131 zmK fun imm0 w0=>?_
  simp (disch:=omega) [zz]
  intro b nb nTb
  have nb':¬R=b:=fun e=>nb e.symm
  have nTb':¬T=b:=fun e=>nTb e.symm
  refine AT.loop' (α:=Nat × q8) (fun x=>St.of [(0,.av .ptr (.ptr R kQ [])),(4,.av .ptr (.ptr b QR [])),(7,.av (.slice 9) (.msl T 9 0 ws.length cap)),(8,.av (.int .i64) (.i .i64 ws.length)),(9,.av (.int .i64) (.i .i64 x.1))] [] (fun _=>0) ((R,qW ta ea buf K asks waits over)::(T,.var (.arr cap 9) (.agg (strs ws++j)))::x.2))
   (fun x=>x.1≤ws.length∧BS b (jF (ws.take x.1)) x.2) (fun x=>ws.length-x.1) (0,[(b,.var QR (.agg [.nilptr,.nsl]))]) ?_ ?_ ?_
  ·refine Le.ofP ?_ ?_ ?_ ?_ (HSub.of_perm ?_)
   rotate_right
   ·refine List.perm_iff_count.2 fun a=>?_
    simp only[List.count_cons,List.count_nil,QR]
    omega
   all_goals simp[qU,qG]
  ·exact⟨by omega,.fresh _ (.inl rfl) rfl⟩
  rintro⟨k,H⟩ ⟨hk,hB⟩ KL hN hE
  simp only at hk hB hN
  refine qM (cf:=zmK) laid mixed _ _ _ (by kernel_rfl) ?_
  have htl:=UH ws k
  have hBe:=hB.er
  by_cases hlt:k<ws.length
  ·have hlt':(k:Int)<ws.length:=by omega
   have hg:=YT ws j k hlt
   have htl2:=UH ws (k+1)
   have hsn:=zfc ws k hlt
   obtain⟨x,hx⟩:∃x,x=ws[k]:=⟨_,rfl⟩
   rw[←hx]at hg hsn
   have hxl:(jF (ws.take k)).length+(x++[10]).length≤(jF ws).length:=by rw[hsn]at htl2;simpa using htl2
   simp (disch:=omega) [zz,hlt',hg,nRT,nRT',nb,nb',nTb,nTb']
   refine⟨by rw[List.length_append,List.length_singleton]at hxl;omega,?_⟩
   refine qE (R:=fun r H'=>r=.tup [(.int .i64,.i .i64 (x++[10]).length),(.iface,.nilifc)]∧BS b (jF (ws.take (k+1))) H') H [(R,qW ta ea buf K asks waits over),(T,.var (.arr cap 9) (.agg (strs ws++j)))] (List.perm_append_comm (l₁:=[_,_])) rfl (by simp[qQ]) (by simp) ?_ ?_
   ·rw[hBe]
    have:=zp2 b (jF (ws.take k)) (x++[10]) H hB (by omega)
    rw[←hsn]at this
    simpa[TV.er,AV.er]using this
   rintro r H1 ⟨rfl,hB1⟩ _
   refine⟨_,HSub.of_perm (List.perm_append_comm (l₂:=[_,_])),?_⟩
   simp (disch:=omega) [zz]
   refine hN _ (k+1,H1) ?_ ⟨by omega,hB1⟩ (by simp only;omega)
   refine Le.ofP ?_ ?_ ?_ ?_ (HSub.refl _)<;>simp[qU,qG]
  have hkl:k=ws.length:=by omega
  subst hkl
  simp (disch:=omega) [zz,nRT,nRT',nb,nb',nTb,nTb']
  refine hE _ _ (by simp) ?_
  rw[List.take_of_length_le (by simp)]at hB
  simp (disch:=omega) [zz,qW]
  refine qE (R:=fun r H'=>r=.av .str (.s (jF ws))) H [(R,qW ta ea [] K asks waits over),(T,.var (.arr cap 9) (.agg (strs ws++j)))] (by simpa[qW]using List.perm_append_comm (l₁:=[_,_])) rfl (by simp[qQ]) (by simp) ?_ ?_
  ·rw[hBe]
   have:=zav b (jF ws) H hB (by omega)
   simpa[TV.er,AV.er]using this
  rintro r H1 rfl _
  refine⟨_,HSub.of_sub (List.sublist_append_right _ _),?_⟩
  simp (disch:=omega) [zz]
  refine qE (R:=fun y H'=>y=.tup []∧H'=[(R,E)]) [(R,qW ta ea [] K asks waits over)] [(T,.var (.arr cap 9) (.agg (strs ws++j)))] (by simp) rfl (by simp[qQ]) (by simp) ?_ ?_
  ·rw[show q8.er [(R,qW ta ea [] K asks waits over)]=[(R,qW ta ea [] K asks waits over)] by simp[q8.er_cons,heo]]
   simpa[TV.er,AV.er]using hadd
  rintro y H' ⟨rfl,rfl⟩ _
  refine⟨_,HSub.refl _,?_⟩
  simp (disch:=omega) [zz,Tryz.f131,hEe]
  exact HSub.of_sub (List.Sublist.cons_cons _ (List.nil_sublist _))
end Go.Proofs.YtooipdkilgpojaaGreatDoor
end
section
set_option maxRecDepth 100000
namespace Go.Proofs.YtooipdkilgpojaaGreatDoor
open Go Go.Ab
open Classical
variable [Sel]
def J7 {α:Type} (p:α→Bool) (xs:List α):Int:=match xs.findIdx? p with|some i=>i|none=>-1
theorem uL {α:Type} {p:α→Bool} {xs:List α} {k:Nat} (hlt:k<xs.length) (h0:∀x∈xs.take k,p x=false) (h1:p xs[k]=true):J7 p xs=k:=by
 have:xs.findIdx? p=some k:=by
  rw[List.findIdx?_eq_some_iff_getElem]
  refine⟨hlt,h1,fun j hj=>?_⟩
  rw[h0 _ (List.mem_take_iff_getElem.2 ⟨j,by omega,rfl⟩)];simp
 simp[J7,this]
theorem x9 {α:Type} {p:α→Bool} {xs:List α} (h0:∀x∈xs,p x=false):J7 p xs=-1:=by
 have:xs.findIdx? p=none:=by
  rw[List.findIdx?_eq_none_iff];exact h0
 simp[J7,this]
theorem ze8 {α:Type} (p:α→Bool) (xs:List α):(J7 p xs=-1∧xs.find? p=none)∨∃(i:Nat) (h:i<xs.length),J7 p xs=i∧xs.find? p=some xs[i]:=by
 unfold J7
 cases h:xs.findIdx? p with
 | none =>
  left;rw[List.findIdx?_eq_none_iff]at h
  exact⟨rfl,List.find?_eq_none.2 fun x hx=>by simp[h x hx]⟩
 | some i =>
  right
  rw[List.findIdx?_eq_some_iff_getElem]at h
  obtain⟨hl,hp,hn⟩:=h
  refine⟨i,hl,rfl,?_⟩
  rw[List.find?_eq_some_iff_getElem]
  exact⟨hp,i,hl,rfl,fun j hj=>by simpa using hn j hj⟩
theorem YV {α:Type} (p:α→Bool) (xs:List α):(J7 p xs=-1∧∀x∈xs,p x=false)∨∃(i:Nat) (h:i<xs.length),J7 p xs=i∧p xs[i]=true∧∀x∈xs.take i,p x=false:=by
 unfold J7
 cases h:xs.findIdx? p with
 | none =>
  left;rw[List.findIdx?_eq_none_iff]at h
  exact⟨rfl,h⟩
 | some i =>
  right
  rw[List.findIdx?_eq_some_iff_getElem]at h
  obtain⟨hl,hp,hn⟩:=h
  refine⟨i,hl,rfl,hp,fun x hx=>?_⟩
  obtain⟨q,hq,rfl⟩:=List.mem_take_iff_getElem.1 hx
  simpa using hn q (by omega)
theorem zgc (A M:List AV) (m y:AV):(A++(m::M)).set A.length y=A++(y::M):=by
 rw[List.set_append_right _ _ (Nat.le_refl _)];simp
end Go.Proofs.YtooipdkilgpojaaGreatDoor
end
section
set_option maxRecDepth 100000
namespace Go.Proofs.YtooipdkilgpojaaGreatDoor
open Go Go.Ab
open Classical
variable [Sel] [SelPow] [SelMax]
@[simp] theorem zlm:qZ Tryz.prog 109=true:=by kernel_rfl
@[simp] theorem zqy:z8 Tryz.prog (.func 109)=false:=q9 zlm
@[simp] theorem zx3:qZ Tryz.prog 67=true:=by kernel_rfl
@[simp] theorem zxn:z8 Tryz.prog (.func 67)=false:=q9 zx3
@[simp] theorem zzM:qZ Tryz.prog 134=true:=by kernel_rfl
@[simp] theorem zAI:z8 Tryz.prog (.func 134)=false:=q9 zzM
@[simp] theorem zmY:qZ Tryz.prog 135=true:=by kernel_rfl
@[simp] theorem zra:z8 Tryz.prog (.func 135)=false:=q9 zmY
@[simp] theorem znM:qZ Tryz.prog 85=true:=by kernel_rfl
@[simp] theorem zrm:z8 Tryz.prog (.func 85)=false:=q9 znM
@[simp] theorem zot:qZ Tryz.prog 87=true:=by kernel_rfl
@[simp] theorem zrz:z8 Tryz.prog (.func 87)=false:=q9 zot
theorem JK.strs (l:List Txt):JK (strs l):=VW l
noncomputable def wY (cap:Nat) (ts:List Txt) (j:List AV):HObj:=.var (.arr cap 9) (.agg (strs ts++j))
theorem KE {cap:Nat} {ts:List Txt} {j:List AV} (h:JK j):(wY cap ts j).er=wY cap ts j:=by
 simp only[wY,HObj.er_var,AV.erk,uC,VW]
 rw[show AV.erks j=j from h]
def zaJ (f:AV) (bt:Nat) (o:HObj) (g:Txt→Bool) (ts:List Txt):Prop:=o.er=o∧f.er=f∧∀x∈ts,VC1 f [.av .str (.s x)] [(bt,o)] fun r H'=>r=.av .bool (.b (g x))∧H'=[(bt,o)]
set_option maxHeartbeats 4000000 in
theorem zdl (g:Txt→Bool) (f:AV) (bt:Nat) (o:HObj) (ts:List Txt) (hf:zaJ f bt o g ts) (b cap:Nat) (j:List AV) (hj:JK j) (hb:b≠bt) (hcap:ts.length+j.length=cap) (hn:ts.length≤1000000000) :
  q7 Tryz.prog 109 [.av (.slice 9) (.msl b 9 0 ts.length cap),.av .func f] [(b,wY cap ts j),(bt,o)]
   fun r H'=>r=.av (.int .i64) (.i .i64 (J7 g ts))∧H'=[(b,wY cap ts j),(bt,o)]:=by
 obtain⟨ho,hfe,hff⟩:=hf
 have hre:=KE (cap:=cap) (ts:=ts) hj
 refine zov Tryz.func109 cf0 fun imm0 w0=>?_
 simp (disch:=omega) [zz]
 refine AT.loop' (α:=Nat) (fun k=>St.of [(0,.av (.slice 9) (.msl b 9 0 ts.length cap)),(1,.av .func f),(7,.av (.int .i64) (.i .i64 ts.length)),(8,.av (.int .i64) (.i .i64 k))] [] (fun _=>0) [(b,wY cap ts j),(bt,o)])
  (fun k=>k≤ts.length∧∀x∈ts.take k,g x=false) (fun k=>ts.length-k) 0 ?_ ?_ ?_
 ·apply Le.of<;>simp[qU,qG]
 ·simp
 rintro k ⟨hk',hpk⟩ KL hN hE
 refine qM (cf:=cf0) laid mixed _ _ _ (by kernel_rfl) ?_
 by_cases hlt:k<ts.length
 ·have hlt':(k:Int)<ts.length:=by omega
  have hg:=YT ts j k hlt
  simp (disch:=omega) [zz,hlt',wY,hg]
  refine ZG (R:=fun r' H'=>r'=.av .bool (.b (g ts[k]))∧H'=[(bt,o)]) [(bt,o)] [(b,wY cap ts j)] (by simpa[wY]using List.Perm.swap _ _ _) (by simp[q8.er_cons,ho]) (by simp[qQ]) (hff _ (List.getElem_mem hlt)) ?_
  rintro r' H' ⟨rfl,rfl⟩ _
  refine⟨[(b,wY cap ts j),(bt,o)],HSub.of_perm (List.Perm.swap _ _ _),?_⟩
  by_cases hp:g ts[k]=true
  ·simp (disch:=omega) [zz,hp]
   refine hE _ _ (by simp) ?_
   simp (disch:=omega) [zz,Tryz.f109,uL hlt hpk hp,hre,ho]
  ·simp (disch:=omega) [zz,hp]
   refine hN _ (k+1) ?_ ⟨by omega,by rw[Z2 hlt];exact⟨hpk,by simpa using hp⟩⟩ (by omega)
   apply Le.of<;>simp[qU,qG]
 ·have hlt':¬(k:Int)<ts.length:=by omega
  simp (disch:=omega) [zz,hlt']
  refine hE _ _ (by simp) ?_
  rw[List.take_of_length_le (by omega)]at hpk
  simp (disch:=omega) [zz,Tryz.f109,x9 hpk,hre,ho]
theorem zb2 (f:AV) (bt:Nat) (o:HObj) (ho:o.er=o) :
  q7 Tryz.prog 109 [.av (.slice 9) (.sl .no []),.av .func f] [(bt,o)]
   fun r H'=>r=.av (.int .i64) (.i .i64 (-1))∧H'=[(bt,o)]:=by
 refine zov Tryz.func109 cf0 fun imm0 w0=>?_
 simp (disch:=omega) [zz]
 refine AT.loop' (α:=Nat) (fun k=>St.of [(7,.av (.int .i64) (.i .i64 0)),(8,.av (.int .i64) (.i .i64 0))] [] (fun _=>0) [(bt,o)])
  (fun k=>True) (fun k=>0) 0 ?_ ?_ ?_
 ·apply Le.of<;>simp[qU,qG]
 ·simp
 rintro k-KL hN hE
 refine qM (cf:=cf0) laid mixed _ _ _ (by kernel_rfl) ?_
 simp (disch:=omega) [zz]
 refine hE _ _ (by simp) ?_
 simp (disch:=omega) [zz,Tryz.f109,ho]
theorem zjG (g:Txt→Bool) (f:AV) (bt:Nat) (o:HObj) (ts:List Txt) (hf:zaJ f bt o g ts) (v:AV) (H:q8) (hrow:KF ts v H) (hb:∀b∈H.keys,b≠bt) (hn:ts.length≤1000000000) :
  q7 Tryz.prog 67 [.av (.slice 9) v,.av .func f] (H++[(bt,o)]) fun r H'=>r=.av .bool (.b (ts.any g))∧H'=H++[(bt,o)]:=by
 have ho:=hf.1
 have hfe:=hf.2.1
 rcases hrow with⟨rfl,rfl,rfl⟩|⟨b,cap,j,hj,rfl,hc,rfl⟩
 ·refine zov Tryz.func67 cf0 fun imm0 w0=>?_
  simp (disch:=omega) [zz]
  refine jP (R:=fun r' H'=>r'=.av (.int .i64) (.i .i64 (-1))∧H'=[(bt,o)]) rfl (by simp[qQ]) (by simp) ?_ ?_
  ·have:=zb2 f bt o ho
   simpa[TV.er,AV.er,q8.er_cons,ho,hfe]using this
  rintro r' H' ⟨rfl,rfl⟩
  simp (disch:=omega) [zz,Tryz.f67,ho]
 ·have hbb:b≠bt:=hb b (by simp[q8.keys])
  have hre:=KE (cap:=cap) (ts:=ts) hj
  refine zov Tryz.func67 cf0 fun imm0 w0=>?_
  simp (disch:=omega) [zz]
  refine jP (R:=fun r' H'=>r'=.av (.int .i64) (.i .i64 (J7 g ts))∧H'=[(b,wY cap ts j),(bt,o)]) rfl (by simp[qQ]) (by simp) ?_ ?_
  ·have:=zdl g f bt o ts hf b cap j hj hbb hc hn
   rw[show q8.er [(b,HObj.var (TyD.arr cap 9) (AV.agg (strs ts++j))),(bt,o)]=[(b,wY cap ts j),(bt,o)] by
    rw[q8.er_cons,q8.er_cons,ho];rw[show (HObj.var (TyD.arr cap 9) (AV.agg (strs ts++j))).er=wY cap ts j from hre];rfl]
   simpa[TV.er,AV.er,hfe]using this
  rintro r' H' ⟨rfl,rfl⟩
  rcases YV g ts with⟨he,hall⟩|⟨i,hi,he,hs,_⟩
  ·have:ts.any g=false:=by simpa using hall
   simp (disch:=omega) [zz,he,this,Tryz.f67,hre,ho]
   rfl
  ·have h1:ts.any g=true:=by simp;exact⟨_,List.getElem_mem hi,hs⟩
   have h2:(0:Int)≤i:=by omega
   simp (disch:=omega) [zz,he,h1,h2,Tryz.f67,hre,ho]
   rfl
@[simp] theorem zx7:qZ Tryz.prog 66=true:=by kernel_rfl
@[simp] theorem zxg:z8 Tryz.prog (.func 66)=false:=q9 zx7
@[simp] theorem zly:qZ Tryz.prog 108=true:=by kernel_rfl
@[simp] theorem zqs:z8 Tryz.prog (.func 108)=false:=q9 zly
@[simp] theorem zwO:qZ Tryz.prog 29=true:=by kernel_rfl
@[simp] theorem zxw:z8 Tryz.prog (.func 29)=false:=q9 zwO
def zn9 (f:AV) (Hs:q8) (g:Txt→Bool) (ts:List Txt):Prop:=Hs.er=Hs∧f.er=f∧∀x∈ts,VC1 f [.av .str (.s x)] Hs fun r H'=>r=.av .bool (.b (g x))∧H'=Hs
set_option maxHeartbeats 4000000 in
theorem zmG (g:Txt→Bool) (f:AV) (Hs:q8) (ts:List Txt) (hf:zn9 f Hs g ts) (hn:ts.length≤1000000000) :
  q7 Tryz.prog 109 [.av (.slice 9) (.sl .no (strs ts)),.av .func f] Hs
   fun r H'=>r=.av (.int .i64) (.i .i64 (J7 g ts))∧H'=Hs:=by
 obtain⟨ho,hfe,hff⟩:=hf
 refine zov Tryz.func109 cf0 fun imm0 w0=>?_
 simp (disch:=omega) [zz]
 refine AT.loop' (α:=Nat) (fun k=>St.of [(0,.av (.slice 9) (.sl .no (strs ts))),(1,.av .func f),(7,.av (.int .i64) (.i .i64 ts.length)),(8,.av (.int .i64) (.i .i64 k))] [] (fun _=>0) Hs)
  (fun k=>k≤ts.length∧∀x∈ts.take k,g x=false) (fun k=>ts.length-k) 0 ?_ ?_ ?_
 ·apply Le.of<;>simp[qU,qG]
 ·simp
 rintro k ⟨hk',hpk⟩ KL hN hE
 refine qM (cf:=cf0) laid mixed _ _ _ (by kernel_rfl) ?_
 by_cases hlt:k<ts.length
 ·have hlt':(k:Int)<ts.length:=by omega
  have hg:=yH ts k hlt
  simp (disch:=omega) [zz,hlt',hg]
  refine ZG (R:=fun r' H'=>r'=.av .bool (.b (g ts[k]))∧H'=Hs) Hs [] (by simp) ho (by simp[qQ]) (hff _ (List.getElem_mem hlt)) ?_
  rintro r' H' ⟨rfl,rfl⟩ _
  refine⟨H',by simpa using HSub.refl _,?_⟩
  by_cases hp:g ts[k]=true
  ·simp (disch:=omega) [zz,hp]
   refine hE _ _ (by simp) ?_
   simp (disch:=omega) [zz,Tryz.f109,uL hlt hpk hp,ho]
  ·simp (disch:=omega) [zz,hp]
   refine hN _ (k+1) ?_ ⟨by omega,by rw[Z2 hlt];exact⟨hpk,by simpa using hp⟩⟩ (by omega)
   apply Le.of<;>simp[qU,qG]
 ·have hlt':¬(k:Int)<ts.length:=by omega
  simp (disch:=omega) [zz,hlt']
  refine hE _ _ (by simp) ?_
  rw[List.take_of_length_le (by omega)]at hpk
  simp (disch:=omega) [zz,Tryz.f109,x9 hpk,ho]
theorem zbk (g:Txt→Bool) (f:AV) (Hs:q8) (ts:List Txt) (hf:zn9 f Hs g ts) (hn:ts.length≤1000000000) :
  q7 Tryz.prog 67 [.av (.slice 9) (.sl .no (strs ts)),.av .func f] Hs fun r H'=>r=.av .bool (.b (ts.any g))∧H'=Hs:=by
 have ho:=hf.1
 have hfe:=hf.2.1
 have hek:AV.ers (strs ts)=strs ts:=zjB ts
 refine zov Tryz.func67 cf0 fun imm0 w0=>?_
 simp (disch:=omega) [zz]
 refine qE (R:=fun r' H'=>r'=.av (.int .i64) (.i .i64 (J7 g ts))∧H'=Hs) Hs [] (by simp) rfl (by simp[qQ]) (by simp) ?_ ?_
 ·rw[ho]
  have:=zmG g f Hs ts hf hn
  simpa[TV.er,AV.er,hek,hfe]using this
 rintro r' H' ⟨rfl,rfl⟩ _
 refine⟨H',by simpa using HSub.refl _,?_⟩
 rcases YV g ts with⟨he,hall⟩|⟨i,hi,he,hs,_⟩
 ·have:ts.any g=false:=by simpa using hall
  simp (disch:=omega) [zz,he,this,Tryz.f67,ho]
 ·have h1:ts.any g=true:=by simp;exact⟨_,List.getElem_mem hi,hs⟩
  have h2:(0:Int)≤i:=by omega
  simp (disch:=omega) [zz,he,h1,h2,Tryz.f67,ho]
theorem zfj (ts:List Txt) (x:Txt) (hn:ts.length≤1000000000):PC Tryz.prog 108 [.av (.slice 9) (.sl .no (strs ts)),.av .str (.s x)] (.av (.int .i64) (.i .i64 (J7 (fun y=>decide (y=x)) ts))):=by
 refine zow Tryz.func108 cf0 fun imm0 w0=>?_
 simp (disch:=omega) [zz]
 refine AT.loop' (α:=Nat) (fun k=>St.of [(0,.av (.slice 9) (.sl .no (strs ts))),(1,.av .str (.s x)),(7,.av (.int .i64) (.i .i64 ts.length)),(8,.av (.int .i64) (.i .i64 k))] [] (fun _=>0) [])
  (fun k=>k≤ts.length∧∀y∈ts.take k,(fun y=>decide (y=x)) y=false) (fun k=>ts.length-k) 0 ?_ ?_ ?_
 ·apply Le.of<;>simp[qU,qG]
 ·simp
 rintro k ⟨hk',hpk⟩ KL hN hE
 refine qM (cf:=cf0) laid mixed _ _ _ (by kernel_rfl) ?_
 by_cases hlt:k<ts.length
 ·have hlt':(k:Int)<ts.length:=by omega
  have hg:=yH ts k hlt
  by_cases hp:ts[k]=x
  ·have hp':x=ts[k]:=hp.symm
   have hi:=uL (p:=fun y=>decide (y=x)) hlt hpk (by simpa using hp)
   generalize ts[k]=y at *
   subst hp
   simp (disch:=omega) [zz,hlt',hg]
   refine hE _ _ (by simp) ?_
   simp (disch:=omega) [zz,Tryz.f108,hi]
  ·have hp':¬x=ts[k]:=fun e=>hp e.symm
   simp (disch:=omega) [zz,hlt',hg,hp']
   refine hN _ (k+1) ?_ ⟨by omega,by rw[Z2 hlt];exact⟨hpk,by simpa using hp⟩⟩ (by omega)
   apply Le.of<;>simp[qU,qG]
 ·have hlt':¬(k:Int)<ts.length:=by omega
  simp (disch:=omega) [zz,hlt']
  refine hE _ _ (by simp) ?_
  rw[List.take_of_length_le (by omega)]at hpk
  simp (disch:=omega) [zz,Tryz.f108,x9 (p:=fun y=>decide (y=x)) hpk]
theorem JP (ts:List Txt) (x:Txt) (hn:ts.length≤1000000000):PC Tryz.prog 66 [.av (.slice 9) (.sl .no (strs ts)),.av .str (.s x)] (.av .bool (.b (decide (x∈ts)))):=by
 refine zow Tryz.func66 cf0 fun imm0 w0=>?_
 simp (disch:=omega) [zz]
 refine zcv (zfj ts x hn) ?_
 rcases YV (fun y=>decide (y=x)) ts with⟨he,hall⟩|⟨i,hi,he,hs,_⟩
 ·have:¬x∈ts:=fun h=>by have:=hall x h;simp at this
  simp (disch:=omega) [zz,he,this,Tryz.f66]
 ·have h1:x∈ts:=by simp at hs;rw[←hs];exact List.getElem_mem hi
  have h2:(0:Int)≤i:=by omega
  simp (disch:=omega) [zz,he,h1,h2,Tryz.f66]
theorem x8 (l:List Txt) (hl:l.length≤1000000):PC Tryz.prog 29 [.av (.slice 9) (.sl .no (strs l))] (.av (.slice 9) (.sl .no (strs l))):=by
 have hby:Tryz.prog.bytesOf 9=16:=by kernel_rfl
 refine zow Tryz.func29 cf0 fun imm0 w0=>?_
 simp (disch:=omega) [zz]
 refine⟨?_,?_⟩
 ·intro h
  have:l=[]:=by simpa[strs]using h
  subst this
  simp (disch:=omega) [zz,Tryz.f29,strs]
 ·simp (disch:=omega) [zz,wB,hby,Tryz.f29]
  omega
end Go.Proofs.YtooipdkilgpojaaGreatDoor
end
