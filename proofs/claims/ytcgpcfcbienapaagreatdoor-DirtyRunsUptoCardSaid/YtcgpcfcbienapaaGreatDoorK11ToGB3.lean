/- A tool that goes on: a line of a file that is scanned. No condition beyond each theorem's own. -/
import Derived.Test.YtcgpcfcbienapaaGreatDoorKCToK10
import Derived.Test.YtcgpcfcbienapaaGreatDoorP18ToKBs
import Derived.Test.YtcgpcfcbienapaaGreatDoorB0
import Derived.Test.YtcgpcfcbienapaaGreatDoorKIToK4
import Derived.Test.YtcgpcfcbienapaaGreatDoorRW3ToK6
set_option linter.unusedSimpArgs false
set_option linter.unusedVariables false
set_option linter.unusedSectionVars false
section
set_option maxRecDepth 100000
namespace Go.Proofs.YtcgpcfcbienapaaGreatDoor
open Go Go.Ab
open Classical
variable [Sel] [SelPow] [SelMax]
theorem za7 (p:Txt):∀l:List Txt,yY (.s p) (QY l)=if p∈l then some (.b true) else none
 | []=>rfl
 | x::l=>by
  have ih:=za7 p l
  simp only[QY,List.map_cons,yY,AV.s.injEq,List.mem_cons]at ih ⊢
  by_cases h:x=p
  ·simp[h]
  ·have h':¬p=x:=fun e=>h e.symm
   simp only[h,h',if_false,false_or]
   exact ih
theorem zl2 (l:List Txt):List.map (fun p:AV × AV=>(p.1.er,p.2.er)) (QY l)=QY l:=by simp[QY,AV.er,Function.comp_def]
abbrev zsi:Cfg:=⟨fun _=>false,fun n=>n==40⟩
set_option maxHeartbeats 16000000 in
theorem zi5 (R Q bs bw br bm:Nat) (s w:Txt) {r:zCT} {p:zY} (hp:p.OK R r) (hq:p.q=some Q) (hne:bs≠bw) (hbs:(bs,zF s)∈p.S) (hbw:(bw,zF w)∈p.S) (hbr:(br,zA R)∈p.S) (hbm:(bm,JU Q)∈p.S) (hs:s.length≤1000000) (hb:RB r) :
  q7 Tryz.prog 138 [.av .ptr (.ptr bs .str []),.av .ptr (.ptr bw .str []),.av .ptr (.ptr br .ptr []),.av .ptr (.ptr bm YR [])] (p.core R r) fun y H'=>y=.tup []∧z6 R (Z1 s w r) H':=by
 have hH:z6 R r (p.core R r):=⟨p,hp,rfl⟩
 have her:=hH.er
 refine q7.nodup fun hnd=>?_
 have mk:∀ {x},x∈p.S→x∈p.core R r:=fun h=>zY.memS h
 have e1:bs≠br:=Y4 hnd (mk hbs) (mk hbr) (by simp[zF,zA])
 have e2:bs≠bm:=Y4 hnd (mk hbs) (mk hbm) (by simp[JU,zF])
 have e3:bw≠br:=Y4 hnd (mk hbw) (mk hbr) (by simp[zA,zF])
 have e4:bw≠bm:=Y4 hnd (mk hbw) (mk hbm) (by simp[JU,zF])
 have e5:br≠bm:=Y4 hnd (mk hbr) (mk hbm) (by simp[JU,zA])
 obtain⟨rest0,hpm0⟩:=znf hbs hbw hbr hne e1 e3
 have hbm0:(bm,JU Q)∈rest0:=by
  have:=hpm0.mem_iff.1 hbm
  simp only[List.mem_cons,Prod.mk.injEq]at this
  rcases this with⟨h,_⟩|⟨h,_⟩|⟨h,_⟩|h
  ·exact absurd h.symm e2
  ·exact absurd h.symm e4
  ·exact absurd h.symm e5
  ·exact h
 obtain⟨rest,hpm⟩:=GZ hbm0
 have hQH:p.QH=[(Q,.map 9 4 (QY r.seen))]:=by
  rcases hp.seen with⟨h1,_⟩|⟨Q',h1,h2⟩
  ·rw[hq]at h1;cases h1
  ·rw[hq]at h1;cases h1;exact h2
 have hpm2:(p.core R r).Perm ((bs,zF s)::(bw,zF w)::(br,zA R)::(bm,JU Q)::(Q,.map 9 4 (QY r.seen))::(R,qW p.ta (zS r.env) r.buf p.K r.asks r.waits r.over)::(p.K,.map 9 33 (knE r.known))::(p.TA++rest)):=by
  refine List.perm_iff_count.2 fun a=>?_
  have h1:=hpm0.count_eq a
  have h2:=hpm.count_eq a
  simp only[zY.core,hQH,List.count_append,List.count_cons,List.count_nil]at h1 h2 ⊢
  omega
 have hnd2:=((hpm2.map Prod.fst).nodup_iff).1 hnd
 simp only[List.map_cons,List.nodup_cons,List.mem_cons,not_or]at hnd2
 obtain⟨⟨g1,g2,g3,g4,g5,_⟩,⟨h2,h3,h4,h5,_⟩,⟨i3,i4,i5,_⟩,⟨j4,j5,_⟩,⟨k5,_⟩,_⟩:=hnd2
 have sy:∀ {a b:Nat},¬a=b→¬b=a:=fun h e=>h e.symm
 have g1':=sy g1;have g2':=sy g2;have g3':=sy g3;have g4':=sy g4;have g5':=sy g5
 have h2':=sy h2;have h3':=sy h3;have h4':=sy h4;have h5':=sy h5;have i3':=sy i3;have i4':=sy i4;have i5':=sy i5;have j4':=sy j4;have j5':=sy j5;have k5':=sy k5
 have hpm3:=hpm2.symm
 have hmf:∀q,yY (.s q) (QY r.seen)=if q∈r.seen then some (.b true) else none:=fun q=>za7 q _
 refine q7.sub (R:=fun y H'=>y=.tup []∧∃H2,Ab.HSub H2 H'∧z6 R (Z1 s w r) H2) ?_ fun y H' ⟨h1,H2,h2,h3⟩ _=>⟨H2,h2,h1,h3⟩
 refine q7.perm hpm2 ?_
 obtain⟨ws,hws⟩:∃ws,zR s=ws:=⟨_,rfl⟩
 have heach:∀w∈ws,w.length≤s.length:=fun w hw=>by
  rw[←hws]at hw
  have:=ZI hw
  simpa using this.2
 have hwo:=zdn s hs
 rw[hws]at hwo
 have hl:=Z1.eq_1 s w r
 rw[hws]at hl
 refine zov Tryz.func138 zsi fun imm0 w0=>?_
 simp (disch:=omega) [zz,zF,zA,JU,qW,g1,g2,g3,g1',g2',g3']
 refine zcv hwo ?_
 have hadd:=zjg R (s++[10]) hH hb.buf (by simp;omega)
 match ws,hl,heach with
 | [],hl,_ =>
  have hl':Z1 s w r=wW (s++[10]) r:=hl
  rw[hl']
  simp (disch:=omega) [zz,strs,g1,g2,g3,g4,g5,h2,h3,h4,h5,i3,i4,i5,j4,j5,k5,g1',g2',g3',g4',g5',h2',h3',h4',h5',i3',i4',i5',j4',j5',k5']
  (repeat with_reducible refine om ?_)
  refine qE (R:=fun y H'=>y=.tup []∧z6 R (wW (s++[10]) r) H') (p.core R r) [] (by simpa[zF,zA,JU,qW]using hpm3) rfl (by simp[qQ]) (by simp) ?_ ?_
  ·rw[her];simpa[TV.er,AV.er]using hadd
  rintro y H' ⟨rfl,hh⟩ _
  refine⟨H',by simpa using HSub.refl _,?_⟩
  have hhe:=hh.er
  simp (disch:=omega) [zz,Tryz.f138,hhe]
  exact⟨H',HSub.refl _,hh⟩
 | [a],hl,_ =>
  have hl':Z1 s w r=wW (s++[10]) r:=hl
  rw[hl']
  simp (disch:=omega) [zz,strs,g1,g2,g3,g4,g5,h2,h3,h4,h5,i3,i4,i5,j4,j5,k5,g1',g2',g3',g4',g5',h2',h3',h4',h5',i3',i4',i5',j4',j5',k5']
  (repeat with_reducible refine om ?_)
  refine qE (R:=fun y H'=>y=.tup []∧z6 R (wW (s++[10]) r) H') (p.core R r) [] (by simpa[zF,zA,JU,qW]using hpm3) rfl (by simp[qQ]) (by simp) ?_ ?_
  ·rw[her];simpa[TV.er,AV.er]using hadd
  rintro y H' ⟨rfl,hh⟩ _
  refine⟨H',by simpa using HSub.refl _,?_⟩
  have hhe:=hh.er
  simp (disch:=omega) [zz,Tryz.f138,hhe]
  exact⟨H',HSub.refl _,hh⟩
 | a::b::c::t,hl,_ =>
  have hl':Z1 s w r=wW (s++[10]) r:=hl
  rw[hl']
  have hz:¬(t.length:Int)+1+1+1=2:=by omega
  simp (disch:=omega) [zz,strs,hz,g1,g2,g3,g4,g5,h2,h3,h4,h5,i3,i4,i5,j4,j5,k5,g1',g2',g3',g4',g5',h2',h3',h4',h5',i3',i4',i5',j4',j5',k5']
  (repeat with_reducible refine om ?_)
  refine qE (R:=fun y H'=>y=.tup []∧z6 R (wW (s++[10]) r) H') (p.core R r) [] (by simpa[zF,zA,JU,qW]using hpm3) rfl (by simp[qQ]) (by simp) ?_ ?_
  ·rw[her];simpa[TV.er,AV.er]using hadd
  rintro y H' ⟨rfl,hh⟩ _
  refine⟨H',by simpa using HSub.refl _,?_⟩
  have hhe:=hh.er
  simp (disch:=omega) [zz,Tryz.f138,hhe]
  exact⟨H',HSub.refl _,hh⟩
 | [a,q],hl,heach =>
  have hl':Z1 s w r=if a≠w∨yV q=false then wW (s++[10]) r else if q∈r.seen then r else ZL q w r:=hl
  have hql:=heach q (by simp)
  by_cases haw:a=w
  rotate_left
  ·rw[if_pos (.inl haw)]at hl'
   rw[hl']
   simp (disch:=omega) [zz,strs,haw,g1,g2,g3,g4,g5,h2,h3,h4,h5,i3,i4,i5,j4,j5,k5,g1',g2',g3',g4',g5',h2',h3',h4',h5',i3',i4',i5',j4',j5',k5']
   (repeat with_reducible refine om ?_)
   refine qE (R:=fun y H'=>y=.tup []∧z6 R (wW (s++[10]) r) H') (p.core R r) [] (by simpa[zF,zA,JU,qW]using hpm3) rfl (by simp[qQ]) (by simp) ?_ ?_
   ·rw[her];simpa[TV.er,AV.er]using hadd
   rintro y H' ⟨rfl,hh⟩ _
   refine⟨H',by simpa using HSub.refl _,?_⟩
   have hhe:=hh.er
   simp (disch:=omega) [zz,Tryz.f138,hhe]
   exact⟨H',HSub.refl _,hh⟩
  subst haw
  simp (disch:=omega) [zz,strs,g1,g2,g3,g4,g5,h2,h3,h4,h5,i3,i4,i5,j4,j5,k5,g1',g2',g3',g4',g5',h2',h3',h4',h5',i3',i4',i5',j4',j5',k5']
  (repeat with_reducible refine om ?_)
  refine jC (DL q (by omega)) rfl rfl (by simp) (by simp[qS,TV.er,AV.er]) ?_
  cases hmv:yV q
  ·rw[if_pos (.inr hmv)]at hl'
   rw[hl']
   simp (disch:=omega) [zz,hmv,g1,g2,g3,g4,g5,h2,h3,h4,h5,i3,i4,i5,j4,j5,k5,g1',g2',g3',g4',g5',h2',h3',h4',h5',i3',i4',i5',j4',j5',k5']
   (repeat with_reducible refine om ?_)
   refine qE (R:=fun y H'=>y=.tup []∧z6 R (wW (s++[10]) r) H') (p.core R r) [] (by simpa[zF,zA,JU,qW]using hpm3) rfl (by simp[qQ]) (by simp) ?_ ?_
   ·rw[her];simpa[TV.er,AV.er]using hadd
   rintro y H' ⟨rfl,hh⟩ _
   refine⟨H',by simpa using HSub.refl _,?_⟩
   have hhe:=hh.er
   simp (disch:=omega) [zz,Tryz.f138,hhe]
   exact⟨H',HSub.refl _,hh⟩
  rw[if_neg (by simp[hmv])]at hl'
  by_cases hse:q∈r.seen
  ·rw[if_pos hse]at hl'
   rw[hl']
   simp (disch:=omega) [zz,hmv,hmf,hse,g1,g2,g3,g4,g5,h2,h3,h4,h5,i3,i4,i5,j4,j5,k5,g1',g2',g3',g4',g5',h2',h3',h4',h5',i3',i4',i5',j4',j5',k5']
   (repeat with_reducible refine om ?_)
   obtain⟨c1,c2⟩:=hp.todo.er hp.tds
   have c3:q8.er rest=rest:=WW.2 fun z hz=>WW.1 (VD hpm2 her) z (by simp[hz])
   rw[c1,c2,c3,zl2,zbP,zV,Q5]
   exact⟨p.core R r,HSub.of_perm (by simpa[zF,zA,JU,qW]using hpm3),hH⟩
  ·rw[if_neg hse]at hl'
   rw[hl']
   simp (disch:=omega) [zz,hmv,hmf,hse,g1,g2,g3,g4,g5,h2,h3,h4,h5,i3,i4,i5,j4,j5,k5,g1',g2',g3',g4',g5',h2',h3',h4',h5',i3',i4',i5',j4',j5',k5']
   (repeat with_reducible refine om ?_)
   refine qE (R:=fun y H'=>y=.tup []∧z6 R (ZL q a r) H') (p.core R r) [] (by simpa[zF,zA,JU,qW]using hpm3) rfl (by simp[qQ]) (by simp) ?_ ?_
   ·rw[her];simpa[TV.er,AV.er]using zgl R Q q a hp hq hb hse
   rintro y H' ⟨rfl,hh⟩ _
   refine⟨H',by simpa using HSub.refl _,?_⟩
   have hhe:=hh.er
   simp (disch:=omega) [zz,Tryz.f138,hhe]
   exact⟨H',HSub.refl _,hh⟩
def KF (ws:List Txt) (v:AV) (H:q8):Prop:=(ws=[]∧v=.sl .no []∧H=[])∨∃b cap j,JK j∧v=.msl b 9 0 ws.length cap∧ws.length+j.length=cap∧H=[(b,.var (.arr cap 9) (.agg (strs ws++j)))]
theorem VW (l:List Txt):AV.erks (strs l)=strs l:=by simp[strs,AV.erks_eq,AV.erk,Function.comp_def]
theorem qX (l:List Txt):(strs l).length=l.length:=by simp[strs]
theorem yH (p:List Txt) (k:Nat) (h:k<p.length):(strs p)[k]?=some (.s p[k]):=by simp[strs,List.getElem?_eq_getElem h]
theorem YT (p:List Txt) (j:List AV) (k:Nat) (h:k<p.length):(strs p++j)[k]?=some (.s p[k]):=by
 rw[List.getElem?_append_left (by rw[qX];exact h),yH p k h]
theorem KF.er {ws:List Txt} {v:AV} {H:q8} (h:KF ws v H):H.er=H∧v.er=v:=by
 rcases h with⟨_,rfl,rfl⟩|⟨b,cap,j,hj,rfl,_,rfl⟩
 ·exact⟨rfl,rfl⟩
 ·refine⟨?_,rfl⟩
  simp only[q8.er_cons,q8.er_nil,HObj.er_var,AV.erk,uC,VW]
  rw[show AV.erks j=j from hj]
theorem KF.of {ws:List Txt} {v:TV} {H:q8} (h:D9 ws v H):∃x,v=.av (.slice 9) x∧KF ws x H:=by
 rcases h with⟨rfl,rfl,rfl⟩|⟨b,rfl,rfl⟩
 ·exact⟨_,rfl,.inl ⟨rfl,rfl,rfl⟩⟩
 ·exact⟨_,rfl,.inr ⟨b,_,[],JK.nil,rfl,by simp,by simp⟩⟩
def jF (ws:List Txt):Txt:=ws.flatMap (·++[10])
theorem zfc (ws:List Txt) (k:Nat) (h:k<ws.length):jF (ws.take (k+1))=jF (ws.take k)++(ws[k]++[10]):=by
 rw[jF,List.take_succ_eq_append_getElem h,List.flatMap_append]
 simp[jF]
theorem UH (ws:List Txt) (k:Nat):(jF (ws.take k)).length≤(jF ws).length:=by
 conv=>rhs;rw[←List.take_append_drop k ws,jF,List.flatMap_append]
 simp[jF]
abbrev zmK:Cfg:=⟨fun n=>n==4,fun n=>n==4⟩
set_option maxHeartbeats 8000000 in
theorem X5 (R:Nat) (ws:List Txt) (v:AV) (rowH:q8) (hrow:KF ws v rowH) (hl:(jF ws).length≤1000000000) (hn:ws.length≤1000000000) (ta ea:AV) (buf:Txt) (K:Nat) (asks:Txt) (waits:Bool) (over:DoV) (h1:ta.erk=ta) (h2:ea.erk=ea) :
  q7 Tryz.prog 139 [.av .ptr (.ptr R kQ []),.av (.slice 9) v] ((R,qW ta ea buf K asks waits over)::rowH) fun r H'=>r=.tup []∧H'=[(R,if 65536<(jF ws).length then qW ta ea [] K asks waits ⟨4,[],[],6⟩ else qW ta ea (jF ws) K asks waits over)]:=by
 obtain⟨hrer,hver⟩:=hrow.er
 obtain⟨E,hE⟩:∃E,E=if 65536<(jF ws).length then qW ta ea [] K asks waits ⟨4,[],[],6⟩ else qW ta ea (jF ws) K asks waits over:=⟨_,rfl⟩
 rw[←hE]
 have hadd:=ziH R (jF ws) ta ea [] K asks waits over h1 h2 (by simp) (by omega)
 have hE2:(if 65536<([]:Txt).length+(jF ws).length then qW ta ea [] K asks waits ⟨4,[],[],6⟩ else qW ta ea ([]++jF ws) K asks waits over)=E:=by rw[hE];simp
 rw[hE2]at hadd
 have heo:∀buf,(qW ta ea buf K asks waits over).er=qW ta ea buf K asks waits over:=fun buf=>ZA h1 h2
 have hEe:E.er=E:=by rw[hE];split<;>exact ZA h1 h2
 refine q7.nodup fun hnd=>?_
 refine q7.sub (R:=fun y H'=>y=.tup []∧∃H2,Ab.HSub H2 H'∧H2=[(R,E)]) ?_ fun y H' ⟨h1,H2,h2,h3⟩ _=>⟨H2,h2,h1,h3⟩
 rcases hrow with⟨hw,hv,hH⟩|⟨T,cap,j,hj,hv,hc,hH⟩
 ·subst hw hv hH
  refine zov Tryz.func139 zmK fun imm0 w0=>?_
  simp (disch:=omega) [zz]
  intro b nb
  have nb':¬R=b:=fun e=>nb e.symm
  refine AT.loop' (α:=Nat × q8) (fun x=>St.of [(0,.av .ptr (.ptr R kQ [])),(4,.av .ptr (.ptr b QR [])),(7,.av (.slice 9) (.sl .no [])),(8,.av (.int .i64) (.i .i64 ([]:List Txt).length)),(9,.av (.int .i64) (.i .i64 x.1))] [] (fun _=>0) ((R,qW ta ea buf K asks waits over)::x.2))
   (fun x=>x.1≤([]:List Txt).length∧BS b (jF (([]:List Txt).take x.1)) x.2) (fun x=>([]:List Txt).length-x.1) (0,[(b,.var QR (.agg [.nilptr,.nsl]))]) ?_ ?_ ?_
  ·refine Le.ofP ?_ ?_ ?_ ?_ (HSub.of_perm ?_)
   rotate_right
   ·refine List.perm_iff_count.2 fun a=>?_
    simp only[List.count_cons,List.count_nil,QR]
    omega
   all_goals simp[qU,qG]
  ·exact⟨by omega,.fresh _ (.inl rfl) rfl⟩
  rintro⟨k,H⟩ ⟨hk,hB⟩ KL hN hE
  simp only at hk hB hN
  refine qM (cf:=zmK) laid mixed _ _ _ (by kernel_rfl) ?_
  have htl:=UH ([]:List Txt) k
  have hBe:=hB.er
  have hkl:k=0:=by simpa using hk
  subst hkl
  simp (disch:=omega) [zz]
  refine hE _ _ (by simp) ?_
  rw[List.take_of_length_le (by simp)]at hB
  simp (disch:=omega) [zz,qW]
  refine qE (R:=fun r H'=>r=.av .str (.s (jF ([]:List Txt)))) H [(R,qW ta ea [] K asks waits over)] (by simpa[qW]using List.perm_append_comm (l₁:=[_])) rfl (by simp[qQ]) (by simp) ?_ ?_
  ·rw[hBe]
   have:=zav b (jF ([]:List Txt)) H hB (by omega)
   simpa[TV.er,AV.er]using this
  rintro r H1 rfl _
  refine⟨_,HSub.of_sub (List.sublist_append_right _ _),?_⟩
  simp (disch:=omega) [zz]
  refine qE (R:=fun y H'=>y=.tup []∧H'=[(R,E)]) [(R,qW ta ea [] K asks waits over)] [] (by simp) rfl (by simp[qQ]) (by simp) ?_ ?_
  ·rw[show q8.er [(R,qW ta ea [] K asks waits over)]=[(R,qW ta ea [] K asks waits over)] by simp[q8.er_cons,heo]]
   simpa[TV.er,AV.er]using hadd
  rintro y H' ⟨rfl,rfl⟩ _
  refine⟨_,HSub.refl _,?_⟩
  simp (disch:=omega) [zz,Tryz.f139,hEe]
  exact HSub.refl _
 ·subst hv hH
  simp[q8.keys]at hnd
  have nRT:¬R=T:=hnd
  have nRT':¬T=R:=fun e=>hnd e.symm
  refine zov Tryz.func139 zmK fun imm0 w0=>?_
  simp (disch:=omega) [zz]
  intro b nb nTb
  have nb':¬R=b:=fun e=>nb e.symm
  have nTb':¬T=b:=fun e=>nTb e.symm
  refine AT.loop' (α:=Nat × q8) (fun x=>St.of [(0,.av .ptr (.ptr R kQ [])),(4,.av .ptr (.ptr b QR [])),(7,.av (.slice 9) (.msl T 9 0 ws.length cap)),(8,.av (.int .i64) (.i .i64 ws.length)),(9,.av (.int .i64) (.i .i64 x.1))] [] (fun _=>0) ((R,qW ta ea buf K asks waits over)::(T,.var (.arr cap 9) (.agg (strs ws++j)))::x.2))
   (fun x=>x.1≤ws.length∧BS b (jF (ws.take x.1)) x.2) (fun x=>ws.length-x.1) (0,[(b,.var QR (.agg [.nilptr,.nsl]))]) ?_ ?_ ?_
  ·refine Le.ofP ?_ ?_ ?_ ?_ (HSub.of_perm ?_)
   rotate_right
   ·refine List.perm_iff_count.2 fun a=>?_
    simp only[List.count_cons,List.count_nil,QR]
    omega
   all_goals simp[qU,qG]
  ·exact⟨by omega,.fresh _ (.inl rfl) rfl⟩
  rintro⟨k,H⟩ ⟨hk,hB⟩ KL hN hE
  simp only at hk hB hN
  refine qM (cf:=zmK) laid mixed _ _ _ (by kernel_rfl) ?_
  have htl:=UH ws k
  have hBe:=hB.er
  by_cases hlt:k<ws.length
  ·have hlt':(k:Int)<ws.length:=by omega
   have hg:=YT ws j k hlt
   have htl2:=UH ws (k+1)
   have hsn:=zfc ws k hlt
   obtain⟨x,hx⟩:∃x,x=ws[k]:=⟨_,rfl⟩
   rw[←hx]at hg hsn
   have hxl:(jF (ws.take k)).length+(x++[10]).length≤(jF ws).length:=by rw[hsn]at htl2;simpa using htl2
   simp (disch:=omega) [zz,hlt',hg,nRT,nRT',nb,nb',nTb,nTb']
   refine⟨by rw[List.length_append,List.length_singleton]at hxl;omega,?_⟩
   refine qE (R:=fun r H'=>r=.tup [(.int .i64,.i .i64 (x++[10]).length),(.iface,.nilifc)]∧BS b (jF (ws.take (k+1))) H') H [(R,qW ta ea buf K asks waits over),(T,.var (.arr cap 9) (.agg (strs ws++j)))] (List.perm_append_comm (l₁:=[_,_])) rfl (by simp[qQ]) (by simp) ?_ ?_
   ·rw[hBe]
    have:=zp2 b (jF (ws.take k)) (x++[10]) H hB (by omega)
    rw[←hsn]at this
    simpa[TV.er,AV.er]using this
   rintro r H1 ⟨rfl,hB1⟩ _
   refine⟨_,HSub.of_perm (List.perm_append_comm (l₂:=[_,_])),?_⟩
   simp (disch:=omega) [zz]
   refine hN _ (k+1,H1) ?_ ⟨by omega,hB1⟩ (by simp only;omega)
   refine Le.ofP ?_ ?_ ?_ ?_ (HSub.refl _)<;>simp[qU,qG]
  have hkl:k=ws.length:=by omega
  subst hkl
  simp (disch:=omega) [zz,nRT,nRT',nb,nb',nTb,nTb']
  refine hE _ _ (by simp) ?_
  rw[List.take_of_length_le (by simp)]at hB
  simp (disch:=omega) [zz,qW]
  refine qE (R:=fun r H'=>r=.av .str (.s (jF ws))) H [(R,qW ta ea [] K asks waits over),(T,.var (.arr cap 9) (.agg (strs ws++j)))] (by simpa[qW]using List.perm_append_comm (l₁:=[_,_])) rfl (by simp[qQ]) (by simp) ?_ ?_
  ·rw[hBe]
   have:=zav b (jF ws) H hB (by omega)
   simpa[TV.er,AV.er]using this
  rintro r H1 rfl _
  refine⟨_,HSub.of_sub (List.sublist_append_right _ _),?_⟩
  simp (disch:=omega) [zz]
  refine qE (R:=fun y H'=>y=.tup []∧H'=[(R,E)]) [(R,qW ta ea [] K asks waits over)] [(T,.var (.arr cap 9) (.agg (strs ws++j)))] (by simp) rfl (by simp[qQ]) (by simp) ?_ ?_
  ·rw[show q8.er [(R,qW ta ea [] K asks waits over)]=[(R,qW ta ea [] K asks waits over)] by simp[q8.er_cons,heo]]
   simpa[TV.er,AV.er]using hadd
  rintro y H' ⟨rfl,rfl⟩ _
  refine⟨_,HSub.refl _,?_⟩
  simp (disch:=omega) [zz,Tryz.f139,hEe]
  exact HSub.of_sub (List.Sublist.cons_cons _ (List.nil_sublist _))
end Go.Proofs.YtcgpcfcbienapaaGreatDoor
end
section
set_option maxRecDepth 100000
namespace Go.Proofs.YtcgpcfcbienapaaGreatDoor
open Go Go.Ab
open Classical
variable [Sel]
def J7 {α:Type} (p:α→Bool) (xs:List α):Int:=match xs.findIdx? p with|some i=>i|none=>-1
theorem uL {α:Type} {p:α→Bool} {xs:List α} {k:Nat} (hlt:k<xs.length) (h0:∀x∈xs.take k,p x=false) (h1:p xs[k]=true):J7 p xs=k:=by
 have:xs.findIdx? p=some k:=by
  rw[List.findIdx?_eq_some_iff_getElem]
  refine⟨hlt,h1,fun j hj=>?_⟩
  rw[h0 _ (List.mem_take_iff_getElem.2 ⟨j,by omega,rfl⟩)];simp
 simp[J7,this]
theorem x9 {α:Type} {p:α→Bool} {xs:List α} (h0:∀x∈xs,p x=false):J7 p xs=-1:=by
 have:xs.findIdx? p=none:=by
  rw[List.findIdx?_eq_none_iff];exact h0
 simp[J7,this]
theorem ze8 {α:Type} (p:α→Bool) (xs:List α):(J7 p xs=-1∧xs.find? p=none)∨∃(i:Nat) (h:i<xs.length),J7 p xs=i∧xs.find? p=some xs[i]:=by
 unfold J7
 cases h:xs.findIdx? p with
 | none =>
  left;rw[List.findIdx?_eq_none_iff]at h
  exact⟨rfl,List.find?_eq_none.2 fun x hx=>by simp[h x hx]⟩
 | some i =>
  right
  rw[List.findIdx?_eq_some_iff_getElem]at h
  obtain⟨hl,hp,hn⟩:=h
  refine⟨i,hl,rfl,?_⟩
  rw[List.find?_eq_some_iff_getElem]
  exact⟨hp,i,hl,rfl,fun j hj=>by simpa using hn j hj⟩
theorem YV {α:Type} (p:α→Bool) (xs:List α):(J7 p xs=-1∧∀x∈xs,p x=false)∨∃(i:Nat) (h:i<xs.length),J7 p xs=i∧p xs[i]=true∧∀x∈xs.take i,p x=false:=by
 unfold J7
 cases h:xs.findIdx? p with
 | none =>
  left;rw[List.findIdx?_eq_none_iff]at h
  exact⟨rfl,h⟩
 | some i =>
  right
  rw[List.findIdx?_eq_some_iff_getElem]at h
  obtain⟨hl,hp,hn⟩:=h
  refine⟨i,hl,rfl,hp,fun x hx=>?_⟩
  obtain⟨q,hq,rfl⟩:=List.mem_take_iff_getElem.1 hx
  simpa using hn q (by omega)
theorem zgc (A M:List AV) (m y:AV):(A++(m::M)).set A.length y=A++(y::M):=by
 rw[List.set_append_right _ _ (Nat.le_refl _)];simp
end Go.Proofs.YtcgpcfcbienapaaGreatDoor
end
section
set_option maxRecDepth 100000
namespace Go.Proofs.YtcgpcfcbienapaaGreatDoor
open Go Go.Ab
open Classical
variable [Sel] [SelPow] [SelMax]
@[simp] theorem zlm:qZ Tryz.prog 109=true:=by kernel_rfl
@[simp] theorem zqy:z8 Tryz.prog (.func 109)=false:=q9 zlm
@[simp] theorem zwN:qZ Tryz.prog 69=true:=by kernel_rfl
@[simp] theorem zxr:z8 Tryz.prog (.func 69)=false:=q9 zwN
@[simp] theorem zA1:qZ Tryz.prog 140=true:=by kernel_rfl
@[simp] theorem zAJ:z8 Tryz.prog (.func 140)=false:=q9 zA1
@[simp] theorem zlt:qZ Tryz.prog 141=true:=by kernel_rfl
@[simp] theorem zqM:z8 Tryz.prog (.func 141)=false:=q9 zlt
@[simp] theorem zkD:qZ Tryz.prog 103=true:=by kernel_rfl
@[simp] theorem zqh:z8 Tryz.prog (.func 103)=false:=q9 zkD
@[simp] theorem zlw:qZ Tryz.prog 105=true:=by kernel_rfl
@[simp] theorem zr2:z8 Tryz.prog (.func 105)=false:=q9 zlw
theorem JK.strs (l:List Txt):JK (strs l):=VW l
noncomputable def wY (cap:Nat) (ts:List Txt) (j:List AV):HObj:=.var (.arr cap 9) (.agg (strs ts++j))
theorem KE {cap:Nat} {ts:List Txt} {j:List AV} (h:JK j):(wY cap ts j).er=wY cap ts j:=by
 simp only[wY,HObj.er_var,AV.erk,uC,VW]
 rw[show AV.erks j=j from h]
def zaJ (f:AV) (bt:Nat) (o:HObj) (g:Txt→Bool) (ts:List Txt):Prop:=o.er=o∧f.er=f∧∀x∈ts,VC1 f [.av .str (.s x)] [(bt,o)] fun r H'=>r=.av .bool (.b (g x))∧H'=[(bt,o)]
set_option maxHeartbeats 4000000 in
theorem zdl (g:Txt→Bool) (f:AV) (bt:Nat) (o:HObj) (ts:List Txt) (hf:zaJ f bt o g ts) (b cap:Nat) (j:List AV) (hj:JK j) (hb:b≠bt) (hcap:ts.length+j.length=cap) (hn:ts.length≤1000000000) :
  q7 Tryz.prog 109 [.av (.slice 9) (.msl b 9 0 ts.length cap),.av .func f] [(b,wY cap ts j),(bt,o)]
   fun r H'=>r=.av (.int .i64) (.i .i64 (J7 g ts))∧H'=[(b,wY cap ts j),(bt,o)]:=by
 obtain⟨ho,hfe,hff⟩:=hf
 have hre:=KE (cap:=cap) (ts:=ts) hj
 refine zov Tryz.func109 cf0 fun imm0 w0=>?_
 simp (disch:=omega) [zz]
 refine AT.loop' (α:=Nat) (fun k=>St.of [(0,.av (.slice 9) (.msl b 9 0 ts.length cap)),(1,.av .func f),(7,.av (.int .i64) (.i .i64 ts.length)),(8,.av (.int .i64) (.i .i64 k))] [] (fun _=>0) [(b,wY cap ts j),(bt,o)])
  (fun k=>k≤ts.length∧∀x∈ts.take k,g x=false) (fun k=>ts.length-k) 0 ?_ ?_ ?_
 ·apply Le.of<;>simp[qU,qG]
 ·simp
 rintro k ⟨hk',hpk⟩ KL hN hE
 refine qM (cf:=cf0) laid mixed _ _ _ (by kernel_rfl) ?_
 by_cases hlt:k<ts.length
 ·have hlt':(k:Int)<ts.length:=by omega
  have hg:=YT ts j k hlt
  simp (disch:=omega) [zz,hlt',wY,hg]
  refine ZG (R:=fun r' H'=>r'=.av .bool (.b (g ts[k]))∧H'=[(bt,o)]) [(bt,o)] [(b,wY cap ts j)] (by simpa[wY]using List.Perm.swap _ _ _) (by simp[q8.er_cons,ho]) (by simp[qQ]) (hff _ (List.getElem_mem hlt)) ?_
  rintro r' H' ⟨rfl,rfl⟩ _
  refine⟨[(b,wY cap ts j),(bt,o)],HSub.of_perm (List.Perm.swap _ _ _),?_⟩
  by_cases hp:g ts[k]=true
  ·simp (disch:=omega) [zz,hp]
   refine hE _ _ (by simp) ?_
   simp (disch:=omega) [zz,Tryz.f109,uL hlt hpk hp,hre,ho]
  ·simp (disch:=omega) [zz,hp]
   refine hN _ (k+1) ?_ ⟨by omega,by rw[Z2 hlt];exact⟨hpk,by simpa using hp⟩⟩ (by omega)
   apply Le.of<;>simp[qU,qG]
 ·have hlt':¬(k:Int)<ts.length:=by omega
  simp (disch:=omega) [zz,hlt']
  refine hE _ _ (by simp) ?_
  rw[List.take_of_length_le (by omega)]at hpk
  simp (disch:=omega) [zz,Tryz.f109,x9 hpk,hre,ho]
theorem zb2 (f:AV) (bt:Nat) (o:HObj) (ho:o.er=o) :
  q7 Tryz.prog 109 [.av (.slice 9) (.sl .no []),.av .func f] [(bt,o)]
   fun r H'=>r=.av (.int .i64) (.i .i64 (-1))∧H'=[(bt,o)]:=by
 refine zov Tryz.func109 cf0 fun imm0 w0=>?_
 simp (disch:=omega) [zz]
 refine AT.loop' (α:=Nat) (fun k=>St.of [(7,.av (.int .i64) (.i .i64 0)),(8,.av (.int .i64) (.i .i64 0))] [] (fun _=>0) [(bt,o)])
  (fun k=>True) (fun k=>0) 0 ?_ ?_ ?_
 ·apply Le.of<;>simp[qU,qG]
 ·simp
 rintro k-KL hN hE
 refine qM (cf:=cf0) laid mixed _ _ _ (by kernel_rfl) ?_
 simp (disch:=omega) [zz]
 refine hE _ _ (by simp) ?_
 simp (disch:=omega) [zz,Tryz.f109,ho]
theorem zjG (g:Txt→Bool) (f:AV) (bt:Nat) (o:HObj) (ts:List Txt) (hf:zaJ f bt o g ts) (v:AV) (H:q8) (hrow:KF ts v H) (hb:∀b∈H.keys,b≠bt) (hn:ts.length≤1000000000) :
  q7 Tryz.prog 69 [.av (.slice 9) v,.av .func f] (H++[(bt,o)]) fun r H'=>r=.av .bool (.b (ts.any g))∧H'=H++[(bt,o)]:=by
 have ho:=hf.1
 have hfe:=hf.2.1
 rcases hrow with⟨rfl,rfl,rfl⟩|⟨b,cap,j,hj,rfl,hc,rfl⟩
 ·refine zov Tryz.func69 cf0 fun imm0 w0=>?_
  simp (disch:=omega) [zz]
  refine jP (R:=fun r' H'=>r'=.av (.int .i64) (.i .i64 (-1))∧H'=[(bt,o)]) rfl (by simp[qQ]) (by simp) ?_ ?_
  ·have:=zb2 f bt o ho
   simpa[TV.er,AV.er,q8.er_cons,ho,hfe]using this
  rintro r' H' ⟨rfl,rfl⟩
  simp (disch:=omega) [zz,Tryz.f69,ho]
 ·have hbb:b≠bt:=hb b (by simp[q8.keys])
  have hre:=KE (cap:=cap) (ts:=ts) hj
  refine zov Tryz.func69 cf0 fun imm0 w0=>?_
  simp (disch:=omega) [zz]
  refine jP (R:=fun r' H'=>r'=.av (.int .i64) (.i .i64 (J7 g ts))∧H'=[(b,wY cap ts j),(bt,o)]) rfl (by simp[qQ]) (by simp) ?_ ?_
  ·have:=zdl g f bt o ts hf b cap j hj hbb hc hn
   rw[show q8.er [(b,HObj.var (TyD.arr cap 9) (AV.agg (strs ts++j))),(bt,o)]=[(b,wY cap ts j),(bt,o)] by
    rw[q8.er_cons,q8.er_cons,ho];rw[show (HObj.var (TyD.arr cap 9) (AV.agg (strs ts++j))).er=wY cap ts j from hre];rfl]
   simpa[TV.er,AV.er,hfe]using this
  rintro r' H' ⟨rfl,rfl⟩
  rcases YV g ts with⟨he,hall⟩|⟨i,hi,he,hs,_⟩
  ·have:ts.any g=false:=by simpa using hall
   simp (disch:=omega) [zz,he,this,Tryz.f69,hre,ho]
   rfl
  ·have h1:ts.any g=true:=by simp;exact⟨_,List.getElem_mem hi,hs⟩
   have h2:(0:Int)≤i:=by omega
   simp (disch:=omega) [zz,he,h1,h2,Tryz.f69,hre,ho]
   rfl
@[simp] theorem zwY:qZ Tryz.prog 68=true:=by kernel_rfl
@[simp] theorem zxk:z8 Tryz.prog (.func 68)=false:=q9 zwY
@[simp] theorem zly:qZ Tryz.prog 108=true:=by kernel_rfl
@[simp] theorem zqs:z8 Tryz.prog (.func 108)=false:=q9 zly
@[simp] theorem zG7:qZ Tryz.prog 37=true:=by kernel_rfl
@[simp] theorem zGF:z8 Tryz.prog (.func 37)=false:=q9 zG7
def zn9 (f:AV) (Hs:q8) (g:Txt→Bool) (ts:List Txt):Prop:=Hs.er=Hs∧f.er=f∧∀x∈ts,VC1 f [.av .str (.s x)] Hs fun r H'=>r=.av .bool (.b (g x))∧H'=Hs
set_option maxHeartbeats 4000000 in
theorem zmG (g:Txt→Bool) (f:AV) (Hs:q8) (ts:List Txt) (hf:zn9 f Hs g ts) (hn:ts.length≤1000000000) :
  q7 Tryz.prog 109 [.av (.slice 9) (.sl .no (strs ts)),.av .func f] Hs
   fun r H'=>r=.av (.int .i64) (.i .i64 (J7 g ts))∧H'=Hs:=by
 obtain⟨ho,hfe,hff⟩:=hf
 refine zov Tryz.func109 cf0 fun imm0 w0=>?_
 simp (disch:=omega) [zz]
 refine AT.loop' (α:=Nat) (fun k=>St.of [(0,.av (.slice 9) (.sl .no (strs ts))),(1,.av .func f),(7,.av (.int .i64) (.i .i64 ts.length)),(8,.av (.int .i64) (.i .i64 k))] [] (fun _=>0) Hs)
  (fun k=>k≤ts.length∧∀x∈ts.take k,g x=false) (fun k=>ts.length-k) 0 ?_ ?_ ?_
 ·apply Le.of<;>simp[qU,qG]
 ·simp
 rintro k ⟨hk',hpk⟩ KL hN hE
 refine qM (cf:=cf0) laid mixed _ _ _ (by kernel_rfl) ?_
 by_cases hlt:k<ts.length
 ·have hlt':(k:Int)<ts.length:=by omega
  have hg:=yH ts k hlt
  simp (disch:=omega) [zz,hlt',hg]
  refine ZG (R:=fun r' H'=>r'=.av .bool (.b (g ts[k]))∧H'=Hs) Hs [] (by simp) ho (by simp[qQ]) (hff _ (List.getElem_mem hlt)) ?_
  rintro r' H' ⟨rfl,rfl⟩ _
  refine⟨H',by simpa using HSub.refl _,?_⟩
  by_cases hp:g ts[k]=true
  ·simp (disch:=omega) [zz,hp]
   refine hE _ _ (by simp) ?_
   simp (disch:=omega) [zz,Tryz.f109,uL hlt hpk hp,ho]
  ·simp (disch:=omega) [zz,hp]
   refine hN _ (k+1) ?_ ⟨by omega,by rw[Z2 hlt];exact⟨hpk,by simpa using hp⟩⟩ (by omega)
   apply Le.of<;>simp[qU,qG]
 ·have hlt':¬(k:Int)<ts.length:=by omega
  simp (disch:=omega) [zz,hlt']
  refine hE _ _ (by simp) ?_
  rw[List.take_of_length_le (by omega)]at hpk
  simp (disch:=omega) [zz,Tryz.f109,x9 hpk,ho]
theorem zbk (g:Txt→Bool) (f:AV) (Hs:q8) (ts:List Txt) (hf:zn9 f Hs g ts) (hn:ts.length≤1000000000) :
  q7 Tryz.prog 69 [.av (.slice 9) (.sl .no (strs ts)),.av .func f] Hs fun r H'=>r=.av .bool (.b (ts.any g))∧H'=Hs:=by
 have ho:=hf.1
 have hfe:=hf.2.1
 have hek:AV.ers (strs ts)=strs ts:=zjB ts
 refine zov Tryz.func69 cf0 fun imm0 w0=>?_
 simp (disch:=omega) [zz]
 refine qE (R:=fun r' H'=>r'=.av (.int .i64) (.i .i64 (J7 g ts))∧H'=Hs) Hs [] (by simp) rfl (by simp[qQ]) (by simp) ?_ ?_
 ·rw[ho]
  have:=zmG g f Hs ts hf hn
  simpa[TV.er,AV.er,hek,hfe]using this
 rintro r' H' ⟨rfl,rfl⟩ _
 refine⟨H',by simpa using HSub.refl _,?_⟩
 rcases YV g ts with⟨he,hall⟩|⟨i,hi,he,hs,_⟩
 ·have:ts.any g=false:=by simpa using hall
  simp (disch:=omega) [zz,he,this,Tryz.f69,ho]
 ·have h1:ts.any g=true:=by simp;exact⟨_,List.getElem_mem hi,hs⟩
  have h2:(0:Int)≤i:=by omega
  simp (disch:=omega) [zz,he,h1,h2,Tryz.f69,ho]
theorem zfj (ts:List Txt) (x:Txt) (hn:ts.length≤1000000000):PC Tryz.prog 108 [.av (.slice 9) (.sl .no (strs ts)),.av .str (.s x)] (.av (.int .i64) (.i .i64 (J7 (fun y=>decide (y=x)) ts))):=by
 refine zow Tryz.func108 cf0 fun imm0 w0=>?_
 simp (disch:=omega) [zz]
 refine AT.loop' (α:=Nat) (fun k=>St.of [(0,.av (.slice 9) (.sl .no (strs ts))),(1,.av .str (.s x)),(7,.av (.int .i64) (.i .i64 ts.length)),(8,.av (.int .i64) (.i .i64 k))] [] (fun _=>0) [])
  (fun k=>k≤ts.length∧∀y∈ts.take k,(fun y=>decide (y=x)) y=false) (fun k=>ts.length-k) 0 ?_ ?_ ?_
 ·apply Le.of<;>simp[qU,qG]
 ·simp
 rintro k ⟨hk',hpk⟩ KL hN hE
 refine qM (cf:=cf0) laid mixed _ _ _ (by kernel_rfl) ?_
 by_cases hlt:k<ts.length
 ·have hlt':(k:Int)<ts.length:=by omega
  have hg:=yH ts k hlt
  by_cases hp:ts[k]=x
  ·have hp':x=ts[k]:=hp.symm
   have hi:=uL (p:=fun y=>decide (y=x)) hlt hpk (by simpa using hp)
   generalize ts[k]=y at *
   subst hp
   simp (disch:=omega) [zz,hlt',hg]
   refine hE _ _ (by simp) ?_
   simp (disch:=omega) [zz,Tryz.f108,hi]
  ·have hp':¬x=ts[k]:=fun e=>hp e.symm
   simp (disch:=omega) [zz,hlt',hg,hp']
   refine hN _ (k+1) ?_ ⟨by omega,by rw[Z2 hlt];exact⟨hpk,by simpa using hp⟩⟩ (by omega)
   apply Le.of<;>simp[qU,qG]
 ·have hlt':¬(k:Int)<ts.length:=by omega
  simp (disch:=omega) [zz,hlt']
  refine hE _ _ (by simp) ?_
  rw[List.take_of_length_le (by omega)]at hpk
  simp (disch:=omega) [zz,Tryz.f108,x9 (p:=fun y=>decide (y=x)) hpk]
theorem JP (ts:List Txt) (x:Txt) (hn:ts.length≤1000000000):PC Tryz.prog 68 [.av (.slice 9) (.sl .no (strs ts)),.av .str (.s x)] (.av .bool (.b (decide (x∈ts)))):=by
 refine zow Tryz.func68 cf0 fun imm0 w0=>?_
 simp (disch:=omega) [zz]
 refine zcv (zfj ts x hn) ?_
 rcases YV (fun y=>decide (y=x)) ts with⟨he,hall⟩|⟨i,hi,he,hs,_⟩
 ·have:¬x∈ts:=fun h=>by have:=hall x h;simp at this
  simp (disch:=omega) [zz,he,this,Tryz.f68]
 ·have h1:x∈ts:=by simp at hs;rw[←hs];exact List.getElem_mem hi
  have h2:(0:Int)≤i:=by omega
  simp (disch:=omega) [zz,he,h1,h2,Tryz.f68]
theorem x8 (l:List Txt) (hl:l.length≤1000000):PC Tryz.prog 37 [.av (.slice 9) (.sl .no (strs l))] (.av (.slice 9) (.sl .no (strs l))):=by
 have hby:Tryz.prog.bytesOf 9=16:=by kernel_rfl
 refine zow Tryz.func37 cf0 fun imm0 w0=>?_
 simp (disch:=omega) [zz]
 refine⟨?_,?_⟩
 ·intro h
  have:l=[]:=by simpa[strs]using h
  subst this
  simp (disch:=omega) [zz,Tryz.f37,strs]
 ·simp (disch:=omega) [zz,wB,hby,Tryz.f37]
  omega
@[simp] theorem zAk:qZ Tryz.prog 176=true:=by kernel_rfl
@[simp] theorem zB2:z8 Tryz.prog (.func 176)=false:=q9 zAk
@[simp] theorem zkW:qZ Tryz.prog 143=true:=by kernel_rfl
@[simp] theorem zqC:z8 Tryz.prog (.func 143)=false:=q9 zkW
@[simp] theorem zlF:qZ Tryz.prog 110=true:=by kernel_rfl
@[simp] theorem zqu:z8 Tryz.prog (.func 110)=false:=q9 zlF
@[simp] theorem zlR:qZ Tryz.prog 142=true:=by kernel_rfl
@[simp] theorem zqi:z8 Tryz.prog (.func 142)=false:=q9 zlR
def y9 (c:UInt8):Bool:=jD c.toNat
def W6 (c:UInt8):Bool:=decide (c=63)||decide (c=42)
def KU:List UInt8→Bool
 | []=>true
 | c::r=>(y9 c||W6 c)&&(!Q8 (c::r) [42,42]&&KU r)
def y6 (s:List UInt8):Bool:=decide (s=[42,42])||(KU s&&decide (1≤s.length∧s.length≤64∧s≠[46]∧s≠[46,46]))
def PZ (p:List UInt8):Bool:=decide ((qT 47 p).length≤16)&&(qT 47 p).all y6
theorem zp8 (c:UInt8):(yV [97,c,97]&&decide (c≠47))=y9 c:=by
 by_cases h:c=47
 ·subst h;decide
 ·have hs:qT 47 [97,c,97]=[[97,c,97]]:=PH _ (by simp[Ne.symm h])
  have h1:jD 97=true:=by decide
  unfold yV
  rw[hs]
  simp[Q0,h1,h,y9]
theorem zjz (c:UInt8):PC Tryz.prog 176 [.av (.int .u8) (.i .u8 c.toNat)] (.av .bool (.b (y9 c))):=by
 have hm:=zp8 c
 by_cases h:c=47
 ·subst h
  have hb:yV [97,47,97]=true:=by decide
  have hp:y9 47=false:=by decide
  refine zow Tryz.func176 cf0 fun imm0 w0=>?_
  simp (disch:=omega) [zz]
  refine zcv (DL [97,47,97] (by simp)) ?_
  simp (disch:=omega) [zz,hb,hp,Tryz.f176]
 have h':¬(c.toNat:Int)=47:=by have:=YH (n:=47) (by omega) h;simpa using this
 have hd:decide (c≠47)=true:=by simpa using h
 rw[hd,Bool.and_true]at hm
 refine zow Tryz.func176 cf0 fun imm0 w0=>?_
 simp (disch:=omega) [zz]
 refine zcv (DL [97,c,97] (by simp)) ?_
 rw[hm]
 cases hp:y9 c
 ·simp (disch:=omega) [zz,Tryz.f176,hp]
 ·simp (disch:=omega) [zz,h',Tryz.f176,hp]
theorem zhW {s:List UInt8} {k:Nat} {c:UInt8} (h:s[k]?=some c):KU (s.drop k)=((y9 c||W6 c)&&(!Q8 (s.drop k) [42,42]&&KU (s.drop (k+1)))):=by
 rw[yJ h,KU]
set_option maxHeartbeats 4000000 in
theorem zix (s:List UInt8) (hs:s.length≤1000000000):PC Tryz.prog 143 [.av .str (.s s)] (.av .bool (.b (y6 s))):=by
 refine zow Tryz.func143 cf0 fun imm0 w0=>?_
 by_cases h0:s=[42,42]
 ·have:y6 s=true:=by simp[y6,h0]
  simp (disch:=omega) [zz,h0,Tryz.f143]
  rw[←h0];exact this
 have hpg:y6 s=(KU s&&decide (1≤s.length∧s.length≤64∧s≠[46]∧s≠[46,46])):=by simp[y6,h0]
 simp (disch:=omega) [zz,h0]
 refine AT.loop' (α:=Nat) (fun k=>St.of [(0,.av .str (.s s)),(7,.av (.int .i64) (.i .i64 s.length)),(8,.av (.int .i64) (.i .i64 k))] [] (fun _=>0) []) (fun k=>k≤s.length∧KU s=KU (s.drop k)) (fun k=>s.length-k) 0 ?_ ?_ ?_
 ·apply Le.of<;>simp[qU,qG,qO,qH,qP,qK,qF,qI,qJ,qN,zX]<;>try omega
 ·simp
 rintro k ⟨hk,hg⟩ KL hN hE
 refine qM (cf:=cf0) laid mixed _ _ _ (by kernel_rfl) ?_
 by_cases hlt:k<s.length
 rotate_left
 ·have hlt':¬(k:Int)<s.length:=by omega
  rw[List.drop_of_length_le (by omega)]at hg
  have hgt:KU s=true:=hg
  simp (disch:=omega) [zz,hlt']
  refine hE _ _ (by simp) ?_
  rw[hpg,hgt,Bool.true_and]
  by_cases h1:1≤s.length
  rotate_left
  ·have h1':¬(1:Int)≤s.length:=by omega
   simp (disch:=omega) [zz,h1,h1',Tryz.f143]
  have h1':(1:Int)≤s.length:=by omega
  by_cases h2:s.length≤64
  rotate_left
  ·have h2':¬(s.length:Int)≤64:=by omega
   simp (disch:=omega) [zz,h1,h1',h2,h2',Tryz.f143]
  have h2':(s.length:Int)≤64:=by omega
  by_cases h3:s=[46]
  ·simp (disch:=omega) [zz,h3,Tryz.f143]
  by_cases h4:s=[46,46]
  ·simp (disch:=omega) [zz,h4,Tryz.f143]
  simp (disch:=omega) [zz,h1,h1',h2,h2',h3,h4,Tryz.f143]
 have hlt':(k:Int)<s.length:=by omega
 obtain⟨c,hc⟩:∃c,c=s[k]:=⟨_,rfl⟩
 have hsc:s[k]=c:=hc.symm
 have hgc:s[k]?=some c:=by rw[List.getElem?_eq_getElem hlt,hsc]
 have hat:=zhW hgc
 have hdl:(s.drop k).length≤1000000000:=by rw[List.length_drop];omega
 have bad:y9 c=false→W6 c=false→y6 s=false:=by
  intro h1 h2
  rw[hpg,hg,hat,h1,h2];rfl
 have pre:Q8 (s.drop k) [42,42]=true→y6 s=false:=by
  intro h1
  rw[hpg,hg,hat,h1];simp
 have on:(y9 c||W6 c)=true→Q8 (s.drop k) [42,42]=false→KU s=KU (s.drop (k+1)):=by
  intro h1 h2
  rw[hg,hat,h1,h2];rfl
 simp (disch:=omega) [zz,hlt',hsc]
 refine zcv (zjz c) ?_
 cases hp:y9 c
 ·by_cases h63:c=63
  ·subst h63
   simp (disch:=omega) [zz,hsc]
   try (repeat with_reducible refine om ?_)
   refine qL (YW (s.drop k) [42,42] (by omega) (by simp)) rfl rfl (by simp) (by simp[qS,coC,TV.er,AV.er]) ?_
   cases hh:Q8 (s.drop k) [42,42]
   ·simp (disch:=omega) [zz,hh]
    refine hN _ (k+1) ?_ ⟨by omega,on (by decide) hh⟩ (by omega)
    apply Le.of<;>simp[qU,qG,qO,qH,qP,qK,qF,qI,qJ,qN,zX]<;>try omega
   ·simp (disch:=omega) [zz,hh]
    refine hE _ _ (by simp) ?_
    simp (disch:=omega) [zz,Tryz.f143,pre hh]
  have h63':¬(c.toNat:Int)=63:=by have:=YH (n:=63) (by omega) h63;simpa using this
  by_cases h42:c=42
  ·subst h42
   simp (disch:=omega) [zz,hsc,h63']
   try (repeat with_reducible refine om ?_)
   refine qL (YW (s.drop k) [42,42] (by omega) (by simp)) rfl rfl (by simp) (by simp[qS,coC,TV.er,AV.er]) ?_
   cases hh:Q8 (s.drop k) [42,42]
   ·simp (disch:=omega) [zz,hh]
    refine hN _ (k+1) ?_ ⟨by omega,on (by decide) hh⟩ (by omega)
    apply Le.of<;>simp[qU,qG,qO,qH,qP,qK,qF,qI,qJ,qN,zX]<;>try omega
   ·simp (disch:=omega) [zz,hh]
    refine hE _ _ (by simp) ?_
    simp (disch:=omega) [zz,Tryz.f143,pre hh]
  have h42':¬(c.toNat:Int)=42:=by have:=YH (n:=42) (by omega) h42;simpa using this
  have hw:W6 c=false:=by simp[W6,h63,h42]
  simp (disch:=omega) [zz,hsc,h63',h42']
  try (repeat with_reducible refine om ?_)
  refine hE _ _ (by simp) ?_
  simp (disch:=omega) [zz,Tryz.f143,bad hp hw]
 ·simp (disch:=omega) [zz,hsc]
  try (repeat with_reducible refine om ?_)
  refine qL (YW (s.drop k) [42,42] (by omega) (by simp)) rfl rfl (by simp) (by simp[qS,coC,TV.er,AV.er]) ?_
  cases hh:Q8 (s.drop k) [42,42]
  ·simp (disch:=omega) [zz,hh]
   refine hN _ (k+1) ?_ ⟨by omega,on (by rw[hp];rfl) hh⟩ (by omega)
   apply Le.of<;>simp[qU,qG,qO,qH,qP,qK,qF,qI,qJ,qN,zX]<;>try omega
  ·simp (disch:=omega) [zz,hh]
   refine hE _ _ (by simp) ?_
   simp (disch:=omega) [zz,Tryz.f143,pre hh]
theorem UN (l:List UInt8) (hl:l.length≤1000000):PC Tryz.prog 111 [.av .str (.s l),.av .str (.s [47])] (.av (.slice 9) (.sl .no (strs (qT 47 l)))):=by
 refine D9.freeze laid (by simp) ((zcL l 47 hl).mono ?_)
 rintro r H' ⟨b,rfl,rfl⟩
 exact .inr ⟨b,rfl,rfl⟩
theorem zl4 (x:List UInt8) (hx:x.length≤1000000000):PC Tryz.prog 142 [.av .str (.s x)] (.av .bool (.b (!y6 x))):=by
 refine zow Tryz.func142 cf0 fun imm0 w0=>?_
 simp (disch:=omega) [zz]
 refine zcv (zix x hx) ?_
 simp (disch:=omega) [zz,Tryz.f142]
theorem zmv (p:List UInt8) (hp:p.length≤1000000):PC Tryz.prog 110 [.av .str (.s p)] (.av .bool (.b (PZ p))):=by
 refine zow Tryz.func110 cf0 fun imm0 w0=>?_
 have hle:=QQ 47 p
 have hlen:∀x∈qT 47 p,x.length≤p.length:=fun x hx=>kU 47 p x hx
 simp (disch:=omega) [zz]
 refine qL (UN p hp) rfl rfl (by simp) (by simp[qS,coC,TV.er,AV.er]) ?_
 by_cases h16:(qT 47 p).length≤16
 ·have h16':((qT 47 p).length:Int)≤16:=by omega
  simp (disch:=omega) [zz,h16']
  refine qE (R:=fun r H'=>r=.av .bool (.b ((qT 47 p).any fun x=>!y6 x))∧H'=[]) [] [] (by simp) rfl (by simp[qQ]) (by simp) ?_ ?_
  ·have:=zbk (fun x=>!y6 x) (.fn 142 []) [] (qT 47 p) ⟨rfl,rfl,fun x hx=>⟨[],rfl,by simp,by have h9:=zl4 x (by have:=hlen x hx;omega);unfold PC at h9;simpa[TV.er,AV.er]using h9⟩⟩ (by omega)
   simpa[TV.er,AV.er]using this
  rintro r H' ⟨rfl,rfl⟩ _
  refine⟨[],by simpa using HSub.refl _,?_⟩
  have he:PZ p=!((qT 47 p).any fun x=>!y6 x):=by
   simp only[PZ,h16,decide_true,Bool.true_and,List.all_eq_not_any_not]
  simp (disch:=omega) [zz,Tryz.f110,he]
 ·have h16':¬((qT 47 p).length:Int)≤16:=by omega
  simp (disch:=omega) [zz,h16',Tryz.f110,PZ,h16]
@[simp] theorem zwS:qZ Tryz.prog 71=true:=by kernel_rfl
@[simp] theorem zxs:z8 Tryz.prog (.func 71)=false:=q9 zwS
@[simp] theorem zkM:qZ Tryz.prog 112=true:=by kernel_rfl
@[simp] theorem zqf:z8 Tryz.prog (.func 112)=false:=q9 zkM
def xQ (f:List Txt→Bool):List Txt→Bool
 | []=>f []
 | c::cs=>f (c::cs)||xQ f cs
def kE:List Txt→List Txt→Bool
 | [],ns=>ns.isEmpty
 | x::xs,ns=>if x=[42,42] then(if xs=[] then !ns.isEmpty else xQ (kE xs) ns) else match ns with
  | []=>false
  | n::ms=>wV x n&&kE xs ms
def wL (p s:Txt):Bool:=PZ p&&yV s&&kE (qT 47 p) (qT 47 s)
abbrev VM:TyD:=.map 193 4
abbrev TsT:TyD:=.slice 9
def WZ (a:Nat × Nat):AV:=.agg [.i .i64 a.1,.i .i64 a.2]
def KI (m:List ((Nat × Nat) × Bool)):List (AV × AV):=m.map fun x=>(WZ x.1,.b x.2)
def U2 (ps ns:List Txt) (m:List ((Nat × Nat) × Bool)):Prop:=∀x∈m,x.2=true→kE (ps.drop x.1.1) (ns.drop x.1.2)=false
theorem zcn {a b:Nat × Nat}:WZ a=WZ b↔a=b:=by
 obtain⟨a1,a2⟩:=a;obtain⟨b1,b2⟩:=b
 simp only[WZ,AV.agg.injEq,List.cons.injEq,AV.i.injEq,Prod.mk.injEq,true_and,and_true]
 omega
theorem DW (a:Nat × Nat):∀m:List ((Nat × Nat) × Bool),yY (WZ a) (KI m)=none∨∃b,yY (WZ a) (KI m)=some (.b b)∧(a,b)∈m
 | []=>.inl rfl
 | (x,b)::m=>by
  have ih:=DW a m
  simp only[KI,List.map_cons,yY,zcn]
  by_cases h:x=a
  ·subst h;rw[if_pos rfl];exact .inr ⟨b,rfl,by simp⟩
  ·rw[if_neg h]
   rcases ih with ih|⟨c,h1,h2⟩
   ·exact .inl ih
   ·exact .inr ⟨c,h1,by simp[h2]⟩
theorem pT (ps ns:List Txt) (a:Nat × Nat) (v:Bool) (hv:v=true→kE (ps.drop a.1) (ns.drop a.2)=false):∀m:List ((Nat × Nat) × Bool),U2 ps ns m→∃m',xX (WZ a) (.b v) (KI m)=KI m'∧U2 ps ns m'
 | [],_=>⟨[(a,v)],rfl,fun x hx h=>by
  rw[List.mem_singleton.1 hx]at h ⊢;exact hv h⟩
 | (x,b)::m,hm=>by
  obtain⟨m',h1,h2⟩:=pT ps ns a v hv m fun y hy=>hm y (by simp[hy])
  simp only[KI,List.map_cons,xX,zcn]
  by_cases h:x=a
  ·subst h;rw[if_pos rfl]
   refine⟨(x,v)::m,rfl,fun y hy hh=>?_⟩
   rcases List.mem_cons.1 hy with rfl|hy
   ·exact hv hh
   ·exact hm y (by simp[hy]) hh
  ·rw[if_neg h]
   refine⟨(x,b)::m',by simp only[KI]at h1;rw[h1];rfl,fun y hy hh=>?_⟩
   rcases List.mem_cons.1 hy with rfl|hy
   ·exact hm _ (by simp) hh
   ·exact h2 y hy hh
noncomputable def zxJ (l:List Txt):HObj:=.var TsT (.sl .no (strs l))
noncomputable def zph (N:Nat):HObj:=.var VM (.map (some N))
def zn4 (b5 b6 b7 b8:Nat):AV:=.fn 112 [.ptr b5 TsT [],.ptr b6 TsT [],.ptr b7 VM [],.ptr b8 .func []]
noncomputable def yM (b5 b6 b7 b8 N:Nat) (ps ns:List Txt) (m:List ((Nat × Nat) × Bool)):q8:=[(b5,zxJ ps),(b6,zxJ ns),(b7,zph N),(b8,.var .func (zn4 b5 b6 b7 b8)),(N,.map 193 4 (KI m))]
theorem XT (b5 b6 b7 b8 N:Nat) (ps ns:List Txt) (m:List ((Nat × Nat) × Bool)):(yM b5 b6 b7 b8 N ps ns m).er=yM b5 b6 b7 b8 N ps ns m:=by
 have h1:∀l,(zxJ l).er=zxJ l:=fun l=>by simp[zxJ,HObj.er_var,AV.erk]
 have h2:(HObj.map 193 4 (KI m)).er=.map 193 4 (KI m):=by
  simp[HObj.er_map,KI,WZ,AV.er,AV.ers,Function.comp_def]
 simp only[yM,q8.er_cons,q8.er_nil,h1,h2];rfl
abbrev zsl:Cfg:=⟨fun _=>false,fun n=>n==52⟩
theorem zmy (m:List ((Nat × Nat) × Bool)):(KI m).map (fun p=>(p.1.er,p.2.er))=KI m:=by
 simp[KI,WZ,AV.er,AV.ers,Function.comp_def]
theorem UM {xs ns:List Txt} (h:xs≠[]):kE ([42,42]::xs) ns=xQ (kE xs) ns:=by
 cases xs with
 | nil=>exact absurd rfl h
 | cons y r=>cases ns<;>simp[kE]
theorem zad {x n:Txt} {xs ms:List Txt} (h:x≠[42,42]):kE (x::xs) (n::ms)=(wV x n&&kE xs ms):=by
 simp[kE,h]
set_option maxHeartbeats 2000000 in
theorem zks (b5 b6 b7 b8 N:Nat) (ps ns:List Txt) (hps:ps.length≤1000000) (hns:ns.length≤1000000) (hpl:∀x∈ps,x.length≤1000000) (hnl:∀x∈ns,x.length≤1000000):∀(z i k:Nat) (m:List ((Nat × Nat) × Bool)),(ps.length-i)+(ns.length-k)<z→i≤ps.length→k≤ns.length→U2 ps ns m→
  q7 Tryz.prog 112 [.av (.int .i64) (.i .i64 i),.av (.int .i64) (.i .i64 k),.av .ptr (.ptr b5 TsT []),.av .ptr (.ptr b6 TsT []),.av .ptr (.ptr b7 VM []),.av .ptr (.ptr b8 .func [])] (yM b5 b6 b7 b8 N ps ns m)
   fun r H'=>r=.av .bool (.b (kE (ps.drop i) (ns.drop k)))∧∃m',U2 ps ns m'∧H'=yM b5 b6 b7 b8 N ps ns m':=by
 intro z
 induction z with
 | zero=>intro i k m hz;omega
 | succ z ih =>
  intro i k m hz hi hk hm
  refine q7.nodup fun hnd=>?_
  simp[yM,q8.keys]at hnd
  obtain⟨⟨n1,n2,n3,n4⟩,⟨n5,n6,n7⟩,⟨n8,n9⟩,n10⟩:=hnd
  have sy:∀ {a b:Nat},¬a=b→¬b=a:=fun h e=>h e.symm
  have n1':=sy n1;have n2':=sy n2;have n3':=sy n3;have n4':=sy n4;have n5':=sy n5;have n6':=sy n6;have n7':=sy n7;have n8':=sy n8;have n9':=sy n9;have n10':=sy n10
  have hme:=zmy
  refine q7.sub (R:=fun r H'=>r=.av .bool (.b (kE (ps.drop i) (ns.drop k)))∧∃m',U2 ps ns m'∧H'=yM b5 b6 b7 b8 N ps ns m') ?_ fun r H' h _=>⟨H',HSub.refl _,h⟩
  refine zov Tryz.func112 zsl fun imm0 w0=>?_
  rw[show yM b5 b6 b7 b8 N ps ns m=[(b5,.var TsT (.sl .no (strs ps))),(b6,.var TsT (.sl .no (strs ns))),(b7,.var VM (.map (some N))),(b8,.var .func (.fn 112 [.ptr b5 TsT [],.ptr b6 TsT [],.ptr b7 VM [],.ptr b8 .func []])),(N,.map 193 4 (KI m))] from rfl]
  by_cases hip:i=ps.length
  ·have hip':(i:Int)=ps.length:=by omega
   have hd:kE (ps.drop i) (ns.drop k)=decide (k=ns.length):=by
    rw[List.drop_of_length_le (by omega),kE]
    by_cases hkn:k=ns.length
    ·subst hkn;simp
    ·have:ns.drop k≠[]:=fun e=>by have:=congrArg List.length e;simp at this;omega
     simp[hkn,this]
   have hkk:decide ((k:Int)=ns.length)=decide (k=ns.length):=decide_eq_decide.2 (by omega)
   simp (disch:=omega) [zz,hip',n1,n1',n2,n2',n3,n3',n4,n4',n5,n5',n6,n6',n7,n7',n8,n8',n9,n9',n10,n10']
   rw[hkk]
   simp (disch:=omega) [zz,hd,hme,Tryz.f112]
   exact⟨m,hm,rfl⟩
  have hip':¬(i:Int)=ps.length:=by omega
  have hil:i<ps.length:=by omega
  have hii:(i:Int)<ps.length:=by omega
  obtain⟨x,hx⟩:∃x,x=ps[i]:=⟨_,rfl⟩
  have hgx:(strs ps)[i]?=some (.s x):=by rw[yH ps i hil,hx]
  have hdp:ps.drop i=x::ps.drop (i+1):=by rw[List.drop_eq_getElem_cons hil,hx]
  have hxl:x.length≤1000000:=hpl x (by rw[hx];exact List.getElem_mem _)
  by_cases hf:yY (WZ (i,k)) (KI m)=some (.b true)
  ·have hd:kE (ps.drop i) (ns.drop k)=false:=by
    rcases DW (i,k) m with h|⟨b,h1,h2⟩
    ·rw[h]at hf;cases hf
    ·rw[h1]at hf;cases hf
     exact hm _ h2 rfl
   simp only[WZ]at hf
   simp (disch:=omega) [zz,hip',hf,n1,n1',n2,n2',n3,n3',n4,n4',n5,n5',n6,n6',n7,n7',n8,n8',n9,n9',n10,n10']
   simp (disch:=omega) [zz,hd,hme,Tryz.f112]
   exact⟨m,hm,rfl⟩
  have hf2:yY (WZ (i,k)) (KI m)=none∨yY (WZ (i,k)) (KI m)=some (.b false):=by
   rcases DW (i,k) m with h|⟨b,h1,h2⟩
   ·exact .inl h
   ·cases b with
    | true=>exact absurd h1 hf
    | false=>exact .inr h1
  clear hf
  by_cases hxs:x=[42,42]
  rotate_left
  ·-- a plain part
   by_cases hkn:k<ns.length
   rotate_left
   ·have hkn':¬(k:Int)<ns.length:=by omega
    have hd:kE (ps.drop i) (ns.drop k)=false:=by
     rw[hdp,List.drop_of_length_le (l:=ns) (by omega)]
     simp[kE,hxs]
    rcases hf2 with hf|hf
    all_goals
     simp only[WZ]at hf
     simp (disch:=omega) [zz,hip',hii,hf,hgx,hxs,hkn',n1,n1',n2,n2',n3,n3',n4,n4',n5,n5',n6,n6',n7,n7',n8,n8',n9,n9',n10,n10']
     (repeat with_reducible refine om ?_)
     simp (disch:=omega) [zz,hd,hme,Tryz.f112]
     exact⟨m,hm,rfl⟩
   have hkn':(k:Int)<ns.length:=by omega
   obtain⟨n,hn⟩:∃n,n=ns[k]:=⟨_,rfl⟩
   have hgn:(strs ns)[k]?=some (.s n):=by rw[yH ns k hkn,hn]
   have hdn:ns.drop k=n::ns.drop (k+1):=by rw[List.drop_eq_getElem_cons hkn,hn]
   have hnl':n.length≤1000000:=hnl n (by rw[hn];exact List.getElem_mem _)
   have hd:kE (ps.drop i) (ns.drop k)=(wV x n&&kE (ps.drop (i+1)) (ns.drop (k+1))):=by
    rw[hdp,hdn,zad hxs]
   have hone:=zom x n (by omega) (by omega)
   have hih:=ih (i+1) (k+1) m (by omega) (by omega) (by omega) hm
   obtain⟨o,ho⟩:∃o,o=wV x n:=⟨_,rfl⟩
   rw[←ho]at hone hd
   have hfx:∃q,yY (WZ (i,k)) (KI m)=q∧(q=none∨q=some (.b false)):=⟨_,rfl,hf2⟩
   rcases hf2 with hf|hf
   all_goals
    simp only[WZ]at hf
    cases o with
    | false =>
     simp (disch:=omega) [zz,hip',hii,hf,hgx,hxs,hkn',hgn,n1,n1',n2,n2',n3,n3',n4,n4',n5,n5',n6,n6',n7,n7',n8,n8',n9,n9',n10,n10']
     try (repeat with_reducible refine om ?_)
     refine zcd (hone) ?_;(simp (maxSteps:=2000000) (disch:=first|omega|assumption) [zz,n1,n1',n2,n2',n3,n3',n4,n4',n5,n5',n6,n6',n7,n7',n8,n8',n9,n9',n10,n10'])
     try (repeat with_reducible refine om ?_)
     simp (disch:=omega) [zz,hd,hme,Tryz.f112]
     exact⟨m,hm,rfl⟩
    | true =>
     simp (disch:=omega) [zz,hip',hii,hf,hgx,hxs,hkn',hgn,n1,n1',n2,n2',n3,n3',n4,n4',n5,n5',n6,n6',n7,n7',n8,n8',n9,n9',n10,n10']
     try (repeat with_reducible refine om ?_)
     refine zcd (hone) ?_;(simp (maxSteps:=2000000) (disch:=first|omega|assumption) [zz,n1,n1',n2,n2',n3,n3',n4,n4',n5,n5',n6,n6',n7,n7',n8,n8',n9,n9',n10,n10'])
     try (repeat with_reducible refine om ?_)
     refine qE (R:=fun r H'=>r=.av .bool (.b (kE (ps.drop (i+1)) (ns.drop (k+1))))∧∃m',U2 ps ns m'∧H'=yM b5 b6 b7 b8 N ps ns m') (yM b5 b6 b7 b8 N ps ns m) [] (by rw[List.append_nil];exact List.Perm.refl _) rfl (by simp[qQ]) (by simp) ?_ ?_
     ·rw[XT]
      simpa[TV.er,AV.er,AV.ers]using hih
     rintro r H' ⟨rfl,m',hm',rfl⟩ _
     refine⟨yM b5 b6 b7 b8 N ps ns m',by rw[List.append_nil];exact HSub.refl _,?_⟩
     rw[show yM b5 b6 b7 b8 N ps ns m'=[(b5,.var TsT (.sl .no (strs ps))),(b6,.var TsT (.sl .no (strs ns))),(b7,.var VM (.map (some N))),(b8,.var .func (.fn 112 [.ptr b5 TsT [],.ptr b6 TsT [],.ptr b7 VM [],.ptr b8 .func []])),(N,.map 193 4 (KI m'))] from rfl]
     simp (disch:=omega) [zz,hd,hme,Tryz.f112]
     exact⟨m',hm',rfl⟩
  subst hxs
  by_cases hil1:i+1=ps.length
  ·have hil':(ps.length:Int)-1=i:=by omega
   have hd:kE (ps.drop i) (ns.drop k)=decide (k<ns.length):=by
    rw[hdp,List.drop_of_length_le (l:=ps) (by omega)]
    by_cases hkn:k<ns.length
    ·rw[List.drop_eq_getElem_cons hkn];simp[kE,hkn]
    ·rw[List.drop_of_length_le (by omega)];simp[kE,hkn]
   rcases hf2 with hf|hf
   all_goals
    simp only[WZ]at hf
    simp (disch:=omega) [zz,hip',hii,hil',hf,hgx,n1,n1',n2,n2',n3,n3',n4,n4',n5,n5',n6,n6',n7,n7',n8,n8',n9,n9',n10,n10']
    try (repeat with_reducible refine om ?_)
    simp (disch:=omega) [zz,hd,hme,Tryz.f112]
    exact⟨m,hm,rfl⟩
  have hil':¬(i:Int)=(ps.length:Int)-1:=by omega
  have hne:ps.drop (i+1)≠[]:=fun e=>by have:=congrArg List.length e;simp at this;omega
  have hih:=ih (i+1) k m (by omega) (by omega) hk hm
  have hdd:kE (ps.drop i) (ns.drop k)=xQ (kE (ps.drop (i+1))) (ns.drop k):=by rw[hdp,UM hne]
  obtain⟨y,hy⟩:∃y,y=kE (ps.drop (i+1)) (ns.drop k):=⟨_,rfl⟩
  rw[←hy]at hih
  rcases hf2 with hf|hf
  all_goals
   simp only[WZ]at hf
   cases y with
   | true =>
    have hd:kE (ps.drop i) (ns.drop k)=true:=by
     rw[hdd]
     cases hns:ns.drop k with
     | nil=>rw[xQ,←hns,←hy]
     | cons a b=>rw[xQ,←hns,←hy];rfl
    simp (disch:=omega) [zz,hip',hii,hil',hf,hgx,n1,n1',n2,n2',n3,n3',n4,n4',n5,n5',n6,n6',n7,n7',n8,n8',n9,n9',n10,n10']
    try (repeat with_reducible refine om ?_)
    refine qE (R:=fun r H'=>r=.av .bool (.b true)∧∃m',U2 ps ns m'∧H'=yM b5 b6 b7 b8 N ps ns m') (yM b5 b6 b7 b8 N ps ns m) [] (by rw[List.append_nil];exact List.Perm.refl _) rfl (by simp[qQ]) (by simp) ?_ ?_
    ·rw[XT]
     simpa[TV.er,AV.er,AV.ers]using hih
    rintro r H' ⟨rfl,m',hm',rfl⟩ _
    refine⟨yM b5 b6 b7 b8 N ps ns m',by rw[List.append_nil];exact HSub.refl _,?_⟩
    obtain⟨m2,hp1,hp2⟩:=pT ps ns (i,k) false (fun e=>by cases e) m' hm'
    simp only[WZ]at hp1
    rw[show yM b5 b6 b7 b8 N ps ns m'=[(b5,.var TsT (.sl .no (strs ps))),(b6,.var TsT (.sl .no (strs ns))),(b7,.var VM (.map (some N))),(b8,.var .func (.fn 112 [.ptr b5 TsT [],.ptr b6 TsT [],.ptr b7 VM [],.ptr b8 .func []])),(N,.map 193 4 (KI m'))] from rfl]
    simp (disch:=omega) [zz,hp1,n1,n1',n2,n2',n3,n3',n4,n4',n5,n5',n6,n6',n7,n7',n8,n8',n9,n9',n10,n10']
    simp (disch:=omega) [zz,hd,hme,Tryz.f112]
    exact⟨m2,hp2,rfl⟩
   | false =>
    simp (disch:=omega) [zz,hip',hii,hil',hf,hgx,n1,n1',n2,n2',n3,n3',n4,n4',n5,n5',n6,n6',n7,n7',n8,n8',n9,n9',n10,n10']
    try (repeat with_reducible refine om ?_)
    refine qE (R:=fun r H'=>r=.av .bool (.b false)∧∃m',U2 ps ns m'∧H'=yM b5 b6 b7 b8 N ps ns m') (yM b5 b6 b7 b8 N ps ns m) [] (by rw[List.append_nil];exact List.Perm.refl _) rfl (by simp[qQ]) (by simp) ?_ ?_
    ·rw[XT]
     simpa[TV.er,AV.er,AV.ers]using hih
    rintro r H' ⟨rfl,m',hm',rfl⟩ _
    refine⟨yM b5 b6 b7 b8 N ps ns m',by rw[List.append_nil];exact HSub.refl _,?_⟩
    rw[show yM b5 b6 b7 b8 N ps ns m'=[(b5,.var TsT (.sl .no (strs ps))),(b6,.var TsT (.sl .no (strs ns))),(b7,.var VM (.map (some N))),(b8,.var .func (.fn 112 [.ptr b5 TsT [],.ptr b6 TsT [],.ptr b7 VM [],.ptr b8 .func []])),(N,.map 193 4 (KI m'))] from rfl]
    by_cases hkn:k<ns.length
    rotate_left
    ·have hkn':¬(k:Int)<ns.length:=by omega
     have hd:kE (ps.drop i) (ns.drop k)=false:=by
      rw[hdd,List.drop_of_length_le (l:=ns) (by omega),xQ]
      rw[List.drop_of_length_le (l:=ns) (by omega)]at hy
      exact hy.symm
     obtain⟨m2,hp1,hp2⟩:=pT ps ns (i,k) true (fun _=>hd) m' hm'
     simp only[WZ]at hp1
     simp (disch:=omega) [zz,hkn',hp1,n1,n1',n2,n2',n3,n3',n4,n4',n5,n5',n6,n6',n7,n7',n8,n8',n9,n9',n10,n10']
     simp (disch:=omega) [zz,hd,hme,Tryz.f112]
     exact⟨m2,hp2,rfl⟩
    have hkn':(k:Int)<ns.length:=by omega
    have hd:kE (ps.drop i) (ns.drop k)=kE (ps.drop i) (ns.drop (k+1)):=by
     have e:kE (ps.drop i) (ns.drop (k+1))=xQ (kE (ps.drop (i+1))) (ns.drop (k+1)):=by rw[hdp,UM hne]
     rw[hdd,e]
     rw[List.drop_eq_getElem_cons hkn]at hy ⊢
     rw[xQ,←hy,Bool.false_or]
    have hih2:=ih i (k+1) m' (by omega) hi (by omega) hm'
    rw[hd]
    obtain⟨y2,hy2⟩:∃y2,y2=kE (ps.drop i) (ns.drop (k+1)):=⟨_,rfl⟩
    rw[←hy2]at hih2 hd
    simp (disch:=omega) [zz,hkn',n1,n1',n2,n2',n3,n3',n4,n4',n5,n5',n6,n6',n7,n7',n8,n8',n9,n9',n10,n10']
    try (repeat with_reducible refine om ?_)
    refine qE (R:=fun r H'=>r=.av .bool (.b y2)∧∃m',U2 ps ns m'∧H'=yM b5 b6 b7 b8 N ps ns m') (yM b5 b6 b7 b8 N ps ns m') [] (by rw[List.append_nil];exact List.Perm.refl _) rfl (by simp[qQ]) (by simp) ?_ ?_
    ·rw[XT]
     simpa[TV.er,AV.er,AV.ers]using hih2
    rintro r H' ⟨rfl,m3,hm3,rfl⟩ _
    refine⟨yM b5 b6 b7 b8 N ps ns m3,by rw[List.append_nil];exact HSub.refl _,?_⟩
    rw[show yM b5 b6 b7 b8 N ps ns m3=[(b5,.var TsT (.sl .no (strs ps))),(b6,.var TsT (.sl .no (strs ns))),(b7,.var VM (.map (some N))),(b8,.var .func (.fn 112 [.ptr b5 TsT [],.ptr b6 TsT [],.ptr b7 VM [],.ptr b8 .func []])),(N,.map 193 4 (KI m3))] from rfl]
    obtain⟨m2,hp1,hp2⟩:=pT ps ns (i,k) (!y2) (fun e=>by rw[hd];simpa using e) m3 hm3
    simp only[WZ]at hp1
    cases y2 with
    | false =>
     simp only[Bool.not_false]at hp1
     simp (disch:=omega) [zz,hp1,n1,n1',n2,n2',n3,n3',n4,n4',n5,n5',n6,n6',n7,n7',n8,n8',n9,n9',n10,n10']
     simp (disch:=omega) [zz,←hy2,hme,Tryz.f112]
     exact⟨m2,hp2,rfl⟩
    | true =>
     simp only[Bool.not_true]at hp1
     simp (disch:=omega) [zz,hp1,n1,n1',n2,n2',n3,n3',n4,n4',n5,n5',n6,n6',n7,n7',n8,n8',n9,n9',n10,n10']
     simp (disch:=omega) [zz,←hy2,hme,Tryz.f112]
     exact⟨m2,hp2,rfl⟩
end Go.Proofs.YtcgpcfcbienapaaGreatDoor
end
