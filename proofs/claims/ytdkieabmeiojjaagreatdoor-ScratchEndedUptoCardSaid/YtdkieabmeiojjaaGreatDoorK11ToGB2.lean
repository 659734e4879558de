/- A tool that goes on: a line of a file that is scanned. No condition. -/
import Derived.Test.YtdkieabmeiojjaaGreatDoorKCToK10
import Derived.Test.YtdkieabmeiojjaaGreatDoorRW3ToGB1
set_option linter.unusedSimpArgs false
set_option linter.unusedVariables false
set_option linter.unusedSectionVars false
set_option maxHeartbeats 64000000
set_option maxRecDepth 100000
namespace Go.Proofs.YtdkieabmeiojjaaGreatDoor
open Go Go.Ab
open Classical
section
variable [Sel] [SelPow] [SelMax]
theorem zbw (p:Txt):∀l:List Txt,wQ (.s p) (X8 l)=if p∈l then some (.b true) else none
 | []=>rfl
 | x::l=>by
  have ih:=zbw p l
  simp only[X8,List.map_cons,wQ,AV.s.injEq,List.mem_cons]at ih |-
  by_cases h:x=p
  ·simp[h]
  ·have h':¬p=x:=fun e=>h e.symm
   simp only[h,h',if_false,false_or]
   exact ih
theorem znl (l:List Txt):List.map (fun p:AV × AV=>(p.1.er,p.2.er)) (X8 l)=X8 l:=by simp[X8,AV.er,Function.comp_def]
abbrev zqm:Cfg:=⟨fun _=>false,fun n=>n==40⟩
theorem zjx (R Q bs bw br bm:Nat) (s w:Txt) {r:qG} {p:zP} (hp:p.OK R r) (hq:p.q=some Q) (hne:bs≠bw) (hbs:(bs,qS s)∈p.S) (hbw:(bw,qS w)∈p.S) (hbr:(br,qV R)∈p.S) (hbm:(bm,K7 Q)∈p.S) (hs:s.length<=1000000) (hb:RB r) :
  q7 Tryz.prog 175 [.av .ptr (.ptr bs .str []),.av .ptr (.ptr bw .str []),.av .ptr (.ptr br .ptr []),.av .ptr (.ptr bm xL [])] (p.core R r) fun y H'=>y=.tup []/\qQ R (QP s w r) H':=by
 have hH:qQ R r (p.core R r):=⟨p,hp,rfl⟩
 have her:=hH.er
 refine q7.nodup fun hnd=>?_
 have mk:∀ {x},x∈p.S->x∈p.core R r:=fun h=>zP.memS h
 have e1:bs≠br:=YT hnd (mk hbs) (mk hbr) (by simp[qS,qV])
 have e2:bs≠bm:=YT hnd (mk hbs) (mk hbm) (by simp[K7,qS])
 have e3:bw≠br:=YT hnd (mk hbw) (mk hbr) (by simp[qV,qS])
 have e4:bw≠bm:=YT hnd (mk hbw) (mk hbm) (by simp[K7,qS])
 have e5:br≠bm:=YT hnd (mk hbr) (mk hbm) (by simp[K7,qV])
 obtain⟨rest0,hpm0⟩:=znF hbs hbw hbr hne e1 e3
 have hbm0:(bm,K7 Q)∈rest0:=by
  have:=hpm0.mem_iff.1 hbm
  simp only[List.mem_cons,Prod.mk.injEq]at this
  rcases this with⟨h,_⟩|⟨h,_⟩|⟨h,_⟩|h
  ·exact absurd h.symm e2
  ·exact absurd h.symm e4
  ·exact absurd h.symm e5
  ·exact h
 obtain⟨rest,hpm⟩:=P0 hbm0
 have hQH:p.QH=[(Q,.map 9 4 (X8 r.seen))]:=by
  rcases hp.seen with⟨h1,_⟩|⟨Q',h1,h2⟩
  ·rw[hq]at h1;cases h1
  ·rw[hq]at h1;cases h1;exact h2
 have hpm2:(p.core R r).Perm ((bs,qS s)::(bw,qS w)::(br,qV R)::(bm,K7 Q)::(Q,.map 9 4 (X8 r.seen))::(R,qJ p.ta (zO r.env) r.buf p.K r.asks r.waits r.over)::(p.K,.map 9 74 (knE r.known))::(p.TA++rest)):=by
  refine List.perm_iff_count.2 fun a=>?_
  have h1:=hpm0.count_eq a
  have h2:=hpm.count_eq a
  simp only[zP.core,hQH,List.count_append,List.count_cons,List.count_nil]at h1 h2 |-
  omega
 have hnd2:=((hpm2.map Prod.fst).nodup_iff).1 hnd
 simp only[List.map_cons,List.nodup_cons,List.mem_cons,not_or]at hnd2
 obtain⟨⟨g1,g2,g3,g4,g5,_⟩,⟨h2,h3,h4,h5,_⟩,⟨i3,i4,i5,_⟩,⟨j4,j5,_⟩,⟨k5,_⟩,_⟩:=hnd2
 have sy:∀ {a b:Nat},¬a=b->¬b=a:=fun h e=>h e.symm
 have g1':=sy g1;have g2':=sy g2;have g3':=sy g3;have g4':=sy g4;have g5':=sy g5
 have h2':=sy h2;have h3':=sy h3;have h4':=sy h4;have h5':=sy h5;have i3':=sy i3;have i4':=sy i4;have i5':=sy i5;have j4':=sy j4;have j5':=sy j5;have k5':=sy k5
 have hpm3:=hpm2.symm
 have hmf:∀q,wQ (.s q) (X8 r.seen)=if q∈r.seen then some (.b true) else none:=fun q=>zbw q _
 refine q7.sub (R:=fun y H'=>y=.tup []/\∃H2,Ab.HSub H2 H'/\qQ R (QP s w r) H2) ?_ fun y H' ⟨h1,H2,h2,h3⟩ _=>⟨H2,h2,h1,h3⟩
 refine q7.perm hpm2 ?_
 obtain⟨ws,hws⟩:∃ws,zG s=ws:=⟨_,rfl⟩
 have heach:∀w∈ws,w.length<=s.length:=fun w hw=>by
  rw[<-hws]at hw
  have:=ZV hw
  simpa using this.2
 have hwo:=zeH s hs
 rw[hws]at hwo
 have hl:=QP.eq_1 s w r
 rw[hws]at hl
 refine zov Tryz.func175 zqm fun imm0 w0=>?_
 simp (disch:=omega) [zz,qS,qV,K7,qJ,g1,g2,g3,g1',g2',g3']
 refine zcv hwo ?_
 have hadd:=zl5 R (s++[10]) hH hb.buf (by simp;omega)
 match ws,hl,heach with
 | [],hl,_ =>
  have hl':QP s w r=y6 (s++[10]) r:=hl
  rw[hl']
  simp (disch:=omega) [zz,strs,g1,g2,g3,g4,g5,h2,h3,h4,h5,i3,i4,i5,j4,j5,k5,g1',g2',g3',g4',g5',h2',h3',h4',h5',i3',i4',i5',j4',j5',k5']
  (repeat with_reducible refine om ?_)
  refine qD (R:=fun y H'=>y=.tup []/\qQ R (y6 (s++[10]) r) H') (p.core R r) [] (by simpa[qS,qV,K7,qJ]using hpm3) rfl (by simp[qE]) (by simp) ?_ ?_
  ·rw[her];simpa[TV.er,AV.er]using hadd
  rintro y H' ⟨rfl,hh⟩ _
  refine⟨H',by simpa using HSub.refl _,?_⟩
  have hhe:=hh.er
  simp (disch:=omega) [zz,Tryz.f175,hhe]
  exact⟨H',HSub.refl _,hh⟩
 | [a],hl,_ =>
  have hl':QP s w r=y6 (s++[10]) r:=hl
  rw[hl']
  simp (disch:=omega) [zz,strs,g1,g2,g3,g4,g5,h2,h3,h4,h5,i3,i4,i5,j4,j5,k5,g1',g2',g3',g4',g5',h2',h3',h4',h5',i3',i4',i5',j4',j5',k5']
  (repeat with_reducible refine om ?_)
  refine qD (R:=fun y H'=>y=.tup []/\qQ R (y6 (s++[10]) r) H') (p.core R r) [] (by simpa[qS,qV,K7,qJ]using hpm3) rfl (by simp[qE]) (by simp) ?_ ?_
  ·rw[her];simpa[TV.er,AV.er]using hadd
  rintro y H' ⟨rfl,hh⟩ _
  refine⟨H',by simpa using HSub.refl _,?_⟩
  have hhe:=hh.er
  simp (disch:=omega) [zz,Tryz.f175,hhe]
  exact⟨H',HSub.refl _,hh⟩
 | a::b::c::t,hl,_ =>
  have hl':QP s w r=y6 (s++[10]) r:=hl
  rw[hl']
  have hz:¬(t.length:Int)+1+1+1=2:=by omega
  simp (disch:=omega) [zz,strs,hz,g1,g2,g3,g4,g5,h2,h3,h4,h5,i3,i4,i5,j4,j5,k5,g1',g2',g3',g4',g5',h2',h3',h4',h5',i3',i4',i5',j4',j5',k5']
  (repeat with_reducible refine om ?_)
  refine qD (R:=fun y H'=>y=.tup []/\qQ R (y6 (s++[10]) r) H') (p.core R r) [] (by simpa[qS,qV,K7,qJ]using hpm3) rfl (by simp[qE]) (by simp) ?_ ?_
  ·rw[her];simpa[TV.er,AV.er]using hadd
  rintro y H' ⟨rfl,hh⟩ _
  refine⟨H',by simpa using HSub.refl _,?_⟩
  have hhe:=hh.er
  simp (disch:=omega) [zz,Tryz.f175,hhe]
  exact⟨H',HSub.refl _,hh⟩
 | [a,q],hl,heach =>
  have hl':QP s w r=if a≠w\/w5 q=false then y6 (s++[10]) r else if q∈r.seen then r else ZD q w r:=hl
  have hql:=heach q (by simp)
  by_cases haw:a=w
  rotate_left
  ·rw[if_pos (.inl haw)]at hl'
   rw[hl']
   simp (disch:=omega) [zz,strs,haw,g1,g2,g3,g4,g5,h2,h3,h4,h5,i3,i4,i5,j4,j5,k5,g1',g2',g3',g4',g5',h2',h3',h4',h5',i3',i4',i5',j4',j5',k5']
   (repeat with_reducible refine om ?_)
   refine qD (R:=fun y H'=>y=.tup []/\qQ R (y6 (s++[10]) r) H') (p.core R r) [] (by simpa[qS,qV,K7,qJ]using hpm3) rfl (by simp[qE]) (by simp) ?_ ?_
   ·rw[her];simpa[TV.er,AV.er]using hadd
   rintro y H' ⟨rfl,hh⟩ _
   refine⟨H',by simpa using HSub.refl _,?_⟩
   have hhe:=hh.er
   simp (disch:=omega) [zz,Tryz.f175,hhe]
   exact⟨H',HSub.refl _,hh⟩
  subst haw
  simp (disch:=omega) [zz,strs,g1,g2,g3,g4,g5,h2,h3,h4,h5,i3,i4,i5,j4,j5,k5,g1',g2',g3',g4',g5',h2',h3',h4',h5',i3',i4',i5',j4',j5',k5']
  (repeat with_reducible refine om ?_)
  refine kP (YW q (by omega)) rfl rfl (by simp) (by simp[qR,TV.er,AV.er]) ?_
  cases hmv:w5 q
  ·rw[if_pos (.inr hmv)]at hl'
   rw[hl']
   simp (disch:=omega) [zz,hmv,g1,g2,g3,g4,g5,h2,h3,h4,h5,i3,i4,i5,j4,j5,k5,g1',g2',g3',g4',g5',h2',h3',h4',h5',i3',i4',i5',j4',j5',k5']
   (repeat with_reducible refine om ?_)
   refine qD (R:=fun y H'=>y=.tup []/\qQ R (y6 (s++[10]) r) H') (p.core R r) [] (by simpa[qS,qV,K7,qJ]using hpm3) rfl (by simp[qE]) (by simp) ?_ ?_
   ·rw[her];simpa[TV.er,AV.er]using hadd
   rintro y H' ⟨rfl,hh⟩ _
   refine⟨H',by simpa using HSub.refl _,?_⟩
   have hhe:=hh.er
   simp (disch:=omega) [zz,Tryz.f175,hhe]
   exact⟨H',HSub.refl _,hh⟩
  rw[if_neg (by simp[hmv])]at hl'
  by_cases hse:q∈r.seen
  ·rw[if_pos hse]at hl'
   rw[hl']
   simp (disch:=omega) [zz,hmv,hmf,hse,g1,g2,g3,g4,g5,h2,h3,h4,h5,i3,i4,i5,j4,j5,k5,g1',g2',g3',g4',g5',h2',h3',h4',h5',i3',i4',i5',j4',j5',k5']
   (repeat with_reducible refine om ?_)
   obtain⟨c1,c2⟩:=hp.todo.er hp.tds
   have c3:q8.er rest=rest:=YK.2 fun z hz=>YK.1 (VB hpm2 her) z (by simp[hz])
   rw[c1,c2,c3,znl,zcu,zH,Q7]
   exact⟨p.core R r,HSub.of_perm (by simpa[qS,qV,K7,qJ]using hpm3),hH⟩
  ·rw[if_neg hse]at hl'
   rw[hl']
   simp (disch:=omega) [zz,hmv,hmf,hse,g1,g2,g3,g4,g5,h2,h3,h4,h5,i3,i4,i5,j4,j5,k5,g1',g2',g3',g4',g5',h2',h3',h4',h5',i3',i4',i5',j4',j5',k5']
   (repeat with_reducible refine om ?_)
   refine qD (R:=fun y H'=>y=.tup []/\qQ R (ZD q a r) H') (p.core R r) [] (by simpa[qS,qV,K7,qJ]using hpm3) rfl (by simp[qE]) (by simp) ?_ ?_
   ·rw[her];simpa[TV.er,AV.er]using zhq R Q q a hp hq hb hse
   rintro y H' ⟨rfl,hh⟩ _
   refine⟨H',by simpa using HSub.refl _,?_⟩
   have hhe:=hh.er
   simp (disch:=omega) [zz,Tryz.f175,hhe]
   exact⟨H',HSub.refl _,hh⟩
theorem J1.of {ws:List Txt} {v:TV} {H:q8} (h:cQ ws v H):∃x,v=.av (.slice 9) x/\J1 ws x H:=by
 rcases h with⟨rfl,rfl,rfl⟩|⟨b,rfl,rfl⟩
 ·exact⟨_,rfl,.inl ⟨rfl,rfl,rfl⟩⟩
 ·exact⟨_,rfl,.inr ⟨b,_,[],JK.nil,rfl,by simp,by simp⟩⟩
def j8 (ws:List Txt):Txt:=ws.flatMap (·++[10])
theorem zfM (ws:List Txt) (k:Nat) (h:k<ws.length):j8 (ws.take (k+1))=j8 (ws.take k)++(ws[k]++[10]):=by
 rw[j8,List.take_succ_eq_append_getElem h,List.flatMap_append]
 simp[j8]
theorem vJ (ws:List Txt) (k:Nat):(j8 (ws.take k)).length<=(j8 ws).length:=by
 conv=>rhs;rw[<-List.take_append_drop k ws,j8,List.flatMap_append]
 simp[j8]
abbrev zmY:Cfg:=⟨fun n=>n==4,fun n=>n==4⟩
theorem u5 (R:Nat) (ws:List Txt) (v:AV) (rowH:q8) (hrow:J1 ws v rowH) (hl:(j8 ws).length<=1000000000) (hn:ws.length<=1000000000) (ta ea:AV) (buf:Txt) (K:Nat) (asks:Txt) (waits:Bool) (over:DoV) (h1:ta.erk=ta) (h2:ea.erk=ea) :
  q7 Tryz.prog 176 [.av .ptr (.ptr R kO []),.av (.slice 9) v] ((R,qJ ta ea buf K asks waits over)::rowH) fun r H'=>r=.tup []/\H'=[(R,if 65536<(j8 ws).length then qJ ta ea [] K asks waits ⟨4,[],[],6⟩ else qJ ta ea (j8 ws) K asks waits over)]:=by
 obtain⟨hrer,hver⟩:=hrow.er
 obtain⟨E,hE⟩:∃E,E=if 65536<(j8 ws).length then qJ ta ea [] K asks waits ⟨4,[],[],6⟩ else qJ ta ea (j8 ws) K asks waits over:=⟨_,rfl⟩
 rw[<-hE]
 have hadd:=zjh R (j8 ws) ta ea [] K asks waits over h1 h2 (by simp) (by omega)
 have hE2:(if 65536<([]:Txt).length+(j8 ws).length then qJ ta ea [] K asks waits ⟨4,[],[],6⟩ else qJ ta ea ([]++j8 ws) K asks waits over)=E:=by rw[hE];simp
 rw[hE2]at hadd
 have heo:∀buf,(qJ ta ea buf K asks waits over).er=qJ ta ea buf K asks waits over:=fun buf=>ZM h1 h2
 have hEe:E.er=E:=by rw[hE];split<;>exact ZM h1 h2
 refine q7.nodup fun hnd=>?_
 refine q7.sub (R:=fun y H'=>y=.tup []/\∃H2,Ab.HSub H2 H'/\H2=[(R,E)]) ?_ fun y H' ⟨h1,H2,h2,h3⟩ _=>⟨H2,h2,h1,h3⟩
 rcases hrow with⟨hw,hv,hH⟩|⟨T,cap,j,hj,hv,hc,hH⟩
 ·subst hw hv hH
  refine zov Tryz.func176 zmY fun imm0 w0=>?_
  simp (disch:=omega) [zz]
  intro b nb
  have nb':¬R=b:=fun e=>nb e.symm
  refine AT.loop' (α:=Nat × q8) (fun x=>St.of [(0,.av .ptr (.ptr R kO [])),(4,.av .ptr (.ptr b Z1 [])),(7,.av (.slice 9) (.sl .no [])),(8,.av (.int .i64) (.i .i64 ([]:List Txt).length)),(9,.av (.int .i64) (.i .i64 x.1))] [] (fun _=>0) ((R,qJ ta ea buf K asks waits over)::x.2))
   (fun x=>x.1<=([]:List Txt).length/\BS b (j8 (([]:List Txt).take x.1)) x.2) (fun x=>([]:List Txt).length-x.1) (0,[(b,.var Z1 (.agg [.nilptr,.nsl]))]) ?_ ?_ ?_
  ·refine Le.ofP ?_ ?_ ?_ ?_ (HSub.of_perm ?_)
   rotate_right
   ·refine List.perm_iff_count.2 fun a=>?_
    simp only[List.count_cons,List.count_nil,Z1]
    omega
   all_goals simp[zR,qI]
  ·exact⟨by omega,.fresh _ (.inl rfl) rfl⟩
  rintro⟨k,H⟩ ⟨hk,hB⟩ KL hN hE
  simp only at hk hB hN
  refine zrd zmY ?_
  have htl:=vJ ([]:List Txt) k
  have hBe:=hB.er
  have hkl:k=0:=by simpa using hk
  subst hkl
  simp (disch:=omega) [zz]
  refine hE _ _ (by simp) ?_
  rw[List.take_of_length_le (by simp)]at hB
  simp (disch:=omega) [zz,qJ]
  refine qD (R:=fun r H'=>r=.av .str (.s (j8 ([]:List Txt)))) H [(R,qJ ta ea [] K asks waits over)] (by simpa[qJ]using List.perm_append_comm (l₁:=[_])) rfl (by simp[qE]) (by simp) ?_ ?_
  ·rw[hBe]
   have:=zbH b (j8 ([]:List Txt)) H hB (by omega)
   simpa[TV.er,AV.er]using this
  rintro r H1 rfl _
  refine⟨_,HSub.of_sub (List.sublist_append_right _ _),?_⟩
  simp (disch:=omega) [zz]
  refine qD (R:=fun y H'=>y=.tup []/\H'=[(R,E)]) [(R,qJ ta ea [] K asks waits over)] [] (by simp) rfl (by simp[qE]) (by simp) ?_ ?_
  ·rw[show q8.er [(R,qJ ta ea [] K asks waits over)]=[(R,qJ ta ea [] K asks waits over)] by simp[q8.er_cons,heo]]
   simpa[TV.er,AV.er]using hadd
  rintro y H' ⟨rfl,rfl⟩ _
  refine⟨_,HSub.refl _,?_⟩
  simp (disch:=omega) [zz,Tryz.f176,hEe]
  exact HSub.refl _
 ·subst hv hH
  simp[q8.keys]at hnd
  have nRT:¬R=T:=hnd
  have nRT':¬T=R:=fun e=>hnd e.symm
  refine zov Tryz.func176 zmY fun imm0 w0=>?_
  simp (disch:=omega) [zz]
  intro b nb nTb
  have nb':¬R=b:=fun e=>nb e.symm
  have nTb':¬T=b:=fun e=>nTb e.symm
  refine AT.loop' (α:=Nat × q8) (fun x=>St.of [(0,.av .ptr (.ptr R kO [])),(4,.av .ptr (.ptr b Z1 [])),(7,.av (.slice 9) (.msl T 9 0 ws.length cap)),(8,.av (.int .i64) (.i .i64 ws.length)),(9,.av (.int .i64) (.i .i64 x.1))] [] (fun _=>0) ((R,qJ ta ea buf K asks waits over)::(T,.var (.arr cap 9) (.agg (strs ws++j)))::x.2))
   (fun x=>x.1<=ws.length/\BS b (j8 (ws.take x.1)) x.2) (fun x=>ws.length-x.1) (0,[(b,.var Z1 (.agg [.nilptr,.nsl]))]) ?_ ?_ ?_
  ·refine Le.ofP ?_ ?_ ?_ ?_ (HSub.of_perm ?_)
   rotate_right
   ·refine List.perm_iff_count.2 fun a=>?_
    simp only[List.count_cons,List.count_nil,Z1]
    omega
   all_goals simp[zR,qI]
  ·exact⟨by omega,.fresh _ (.inl rfl) rfl⟩
  rintro⟨k,H⟩ ⟨hk,hB⟩ KL hN hE
  simp only at hk hB hN
  refine zrd zmY ?_
  have htl:=vJ ws k
  have hBe:=hB.er
  by_cases hlt:k<ws.length
  ·have hlt':(k:Int)<ws.length:=by omega
   have hg:=x5 ws j k hlt
   have htl2:=vJ ws (k+1)
   have hsn:=zfM ws k hlt
   obtain⟨x,hx⟩:∃x,x=ws[k]:=⟨_,rfl⟩
   rw[<-hx]at hg hsn
   have hxl:(j8 (ws.take k)).length+(x++[10]).length<=(j8 ws).length:=by rw[hsn]at htl2;simpa using htl2
   simp (disch:=omega) [zz,hlt',hg,nRT,nRT',nb,nb',nTb,nTb']
   refine⟨by rw[List.length_append,List.length_singleton]at hxl;omega,?_⟩
   refine qD (R:=fun r H'=>r=.tup [(.int .i64,.i .i64 (x++[10]).length),(.iface,.nilifc)]/\BS b (j8 (ws.take (k+1))) H') H [(R,qJ ta ea buf K asks waits over),(T,.var (.arr cap 9) (.agg (strs ws++j)))] (List.perm_append_comm (l₁:=[_,_])) rfl (by simp[qE]) (by simp) ?_ ?_
   ·rw[hBe]
    have:=zpr b (j8 (ws.take k)) (x++[10]) H hB (by omega)
    rw[<-hsn]at this
    simpa[TV.er,AV.er]using this
   rintro r H1 ⟨rfl,hB1⟩ _
   refine⟨_,HSub.of_perm (List.perm_append_comm (l₂:=[_,_])),?_⟩
   simp (disch:=omega) [zz]
   refine hN _ (k+1,H1) ?_ ⟨by omega,hB1⟩ (by simp only;omega)
   refine Le.ofP ?_ ?_ ?_ ?_ (HSub.refl _)<;>simp[zR,qI]
  have hkl:k=ws.length:=by omega
  subst hkl
  simp (disch:=omega) [zz,nRT,nRT',nb,nb',nTb,nTb']
  refine hE _ _ (by simp) ?_
  rw[List.take_of_length_le (by simp)]at hB
  simp (disch:=omega) [zz,qJ]
  refine qD (R:=fun r H'=>r=.av .str (.s (j8 ws))) H [(R,qJ ta ea [] K asks waits over),(T,.var (.arr cap 9) (.agg (strs ws++j)))] (by simpa[qJ]using List.perm_append_comm (l₁:=[_,_])) rfl (by simp[qE]) (by simp) ?_ ?_
  ·rw[hBe]
   have:=zbH b (j8 ws) H hB (by omega)
   simpa[TV.er,AV.er]using this
  rintro r H1 rfl _
  refine⟨_,HSub.of_sub (List.sublist_append_right _ _),?_⟩
  simp (disch:=omega) [zz]
  refine qD (R:=fun y H'=>y=.tup []/\H'=[(R,E)]) [(R,qJ ta ea [] K asks waits over)] [(T,.var (.arr cap 9) (.agg (strs ws++j)))] (by simp) rfl (by simp[qE]) (by simp) ?_ ?_
  ·rw[show q8.er [(R,qJ ta ea [] K asks waits over)]=[(R,qJ ta ea [] K asks waits over)] by simp[q8.er_cons,heo]]
   simpa[TV.er,AV.er]using hadd
  rintro y H' ⟨rfl,rfl⟩ _
  refine⟨_,HSub.refl _,?_⟩
  simp (disch:=omega) [zz,Tryz.f176,hEe]
  exact HSub.of_sub (List.Sublist.cons_cons _ (List.nil_sublist _))
end
section
variable [Sel]
def QJ {α:Type} (p:α->Bool) (xs:List α):Int:=match xs.findIdx? p with|some i=>i|none=>-1
theorem JR {α:Type} {p:α->Bool} {xs:List α} {k:Nat} (hlt:k<xs.length) (h0:∀x∈xs.take k,p x=false) (h1:p xs[k]=true):QJ p xs=k:=by
 have:xs.findIdx? p=some k:=by
  rw[List.findIdx?_eq_some_iff_getElem]
  refine⟨hlt,h1,fun j hj=>?_⟩
  rw[h0 _ (List.mem_take_iff_getElem.2 ⟨j,by omega,rfl⟩)];simp
 simp[QJ,this]
theorem ZP {α:Type} {p:α->Bool} {xs:List α} (h0:∀x∈xs,p x=false):QJ p xs=-1:=by
 have:xs.findIdx? p=none:=by
  rw[List.findIdx?_eq_none_iff];exact h0
 simp[QJ,this]
theorem CE {α:Type} (p:α->Bool) (xs:List α):(QJ p xs=-1/\xs.find? p=none)\/∃(i:Nat) (h:i<xs.length),QJ p xs=i/\xs.find? p=some xs[i]:=by
 unfold QJ
 cases h:xs.findIdx? p with
 | none =>
  left;rw[List.findIdx?_eq_none_iff]at h
  exact⟨rfl,List.find?_eq_none.2 fun x hx=>by simp[h x hx]⟩
 | some i =>
  right
  rw[List.findIdx?_eq_some_iff_getElem]at h
  obtain⟨hl,hp,hn⟩:=h
  refine⟨i,hl,rfl,?_⟩
  rw[List.find?_eq_some_iff_getElem]
  exact⟨hp,i,hl,rfl,fun j hj=>by simpa using hn j hj⟩
theorem ZS {α:Type} (p:α->Bool) (xs:List α):(QJ p xs=-1/\∀x∈xs,p x=false)\/∃(i:Nat) (h:i<xs.length),QJ p xs=i/\p xs[i]=true/\∀x∈xs.take i,p x=false:=by
 unfold QJ
 cases h:xs.findIdx? p with
 | none =>
  left;rw[List.findIdx?_eq_none_iff]at h
  exact⟨rfl,h⟩
 | some i =>
  right
  rw[List.findIdx?_eq_some_iff_getElem]at h
  obtain⟨hl,hp,hn⟩:=h
  refine⟨i,hl,rfl,hp,fun x hx=>?_⟩
  obtain⟨q,hq,rfl⟩:=List.mem_take_iff_getElem.1 hx
  simpa using hn q (by omega)
theorem zgI (A M:List AV) (m y:AV):(A++(m::M)).set A.length y=A++(y::M):=by
 rw[List.set_append_right _ _ (Nat.le_refl _)];simp
end
section
variable [Sel] [SelPow] [SelMax]
def zbx (f:AV) (bt:Nat) (o:HObj) (g:Txt->Bool) (ts:List Txt):Prop:=o.er=o/\f.er=f/\∀x∈ts,VC1 f [.av .str (.s x)] [(bt,o)] fun r H'=>r=.av .bool (.b (g x))/\H'=[(bt,o)]
theorem zdR (g:Txt->Bool) (f:AV) (bt:Nat) (o:HObj) (ts:List Txt) (hf:zbx f bt o g ts) (b cap:Nat) (j:List AV) (hj:JK j) (hb:b≠bt) (hcap:ts.length+j.length=cap) (hn:ts.length<=1000000000) :
  q7 Tryz.prog 134 [.av (.slice 9) (.msl b 9 0 ts.length cap),.av .func f] [(b,y5 cap ts j),(bt,o)]
   fun r H'=>r=.av (.int .i64) (.i .i64 (QJ g ts))/\H'=[(b,y5 cap ts j),(bt,o)]:=by
 obtain⟨ho,hfe,hff⟩:=hf
 have hre:=KU (cap:=cap) (ts:=ts) hj
 refine zov Tryz.func134 cf0 fun imm0 w0=>?_
 simp (disch:=omega) [zz]
 refine AT.loop' (α:=Nat) (fun k=>St.of [(0,.av (.slice 9) (.msl b 9 0 ts.length cap)),(1,.av .func f),(7,.av (.int .i64) (.i .i64 ts.length)),(8,.av (.int .i64) (.i .i64 k))] [] (fun _=>0) [(b,y5 cap ts j),(bt,o)])
  (fun k=>k<=ts.length/\∀x∈ts.take k,g x=false) (fun k=>ts.length-k) 0 ?_ ?_ ?_
 ·apply Le.of<;>simp[zR,qI]
 ·simp
 rintro k ⟨hk',hpk⟩ KL hN hE
 refine zrd cf0 ?_
 by_cases hlt:k<ts.length
 ·have hlt':(k:Int)<ts.length:=by omega
  have hg:=x5 ts j k hlt
  simp (disch:=omega) [zz,hlt',y5,hg]
  refine Q6 (R:=fun r' H'=>r'=.av .bool (.b (g ts[k]))/\H'=[(bt,o)]) [(bt,o)] [(b,y5 cap ts j)] (by simpa[y5]using List.Perm.swap _ _ _) (by simp[q8.er_cons,ho]) (by simp[qE]) (hff _ (List.getElem_mem hlt)) ?_
  rintro r' H' ⟨rfl,rfl⟩ _
  refine⟨[(b,y5 cap ts j),(bt,o)],HSub.of_perm (List.Perm.swap _ _ _),?_⟩
  by_cases hp:g ts[k]=true
  ·simp (disch:=omega) [zz,hp]
   refine hE _ _ (by simp) ?_
   simp (disch:=omega) [zz,Tryz.f134,JR hlt hpk hp,hre,ho]
  ·simp (disch:=omega) [zz,hp]
   refine hN _ (k+1) ?_ ⟨by omega,by rw[yC hlt];exact⟨hpk,by simpa using hp⟩⟩ (by omega)
   apply Le.of<;>simp[zR,qI]
 ·have hlt':¬(k:Int)<ts.length:=by omega
  simp (disch:=omega) [zz,hlt']
  refine hE _ _ (by simp) ?_
  rw[List.take_of_length_le (by omega)]at hpk
  simp (disch:=omega) [zz,Tryz.f134,ZP hpk,hre,ho]
theorem zbA (f:AV) (bt:Nat) (o:HObj) (ho:o.er=o) :
  q7 Tryz.prog 134 [.av (.slice 9) (.sl .no []),.av .func f] [(bt,o)]
   fun r H'=>r=.av (.int .i64) (.i .i64 (-1))/\H'=[(bt,o)]:=by
 refine zov Tryz.func134 cf0 fun imm0 w0=>?_
 simp (disch:=omega) [zz]
 refine AT.loop' (α:=Nat) (fun k=>St.of [(7,.av (.int .i64) (.i .i64 0)),(8,.av (.int .i64) (.i .i64 0))] [] (fun _=>0) [(bt,o)])
  (fun k=>True) (fun k=>0) 0 ?_ ?_ ?_
 ·apply Le.of<;>simp[zR,qI]
 ·simp
 rintro k-KL hN hE
 refine zrd cf0 ?_
 simp (disch:=omega) [zz]
 refine hE _ _ (by simp) ?_
 simp (disch:=omega) [zz,Tryz.f134,ho]
theorem zjf (g:Txt->Bool) (f:AV) (bt:Nat) (o:HObj) (ts:List Txt) (hf:zbx f bt o g ts) (v:AV) (H:q8) (hrow:J1 ts v H) (hb:∀b∈H.keys,b≠bt) (hn:ts.length<=1000000000) :
  q7 Tryz.prog 103 [.av (.slice 9) v,.av .func f] (H++[(bt,o)]) fun r H'=>r=.av .bool (.b (ts.any g))/\H'=H++[(bt,o)]:=by
 have ho:=hf.1
 have hfe:=hf.2.1
 rcases hrow with⟨rfl,rfl,rfl⟩|⟨b,cap,j,hj,rfl,hc,rfl⟩
 ·refine zov Tryz.func103 cf0 fun imm0 w0=>?_
  simp (disch:=omega) [zz]
  refine w8 (R:=fun r' H'=>r'=.av (.int .i64) (.i .i64 (-1))/\H'=[(bt,o)]) rfl (by simp[qE]) (by simp) ?_ ?_
  ·have:=zbA f bt o ho
   simpa[TV.er,AV.er,q8.er_cons,ho,hfe]using this
  rintro r' H' ⟨rfl,rfl⟩
  simp (disch:=omega) [zz,Tryz.f103,ho]
 ·have hbb:b≠bt:=hb b (by simp[q8.keys])
  have hre:=KU (cap:=cap) (ts:=ts) hj
  refine zov Tryz.func103 cf0 fun imm0 w0=>?_
  simp (disch:=omega) [zz]
  refine w8 (R:=fun r' H'=>r'=.av (.int .i64) (.i .i64 (QJ g ts))/\H'=[(b,y5 cap ts j),(bt,o)]) rfl (by simp[qE]) (by simp) ?_ ?_
  ·have:=zdR g f bt o ts hf b cap j hj hbb hc hn
   rw[show q8.er [(b,HObj.var (TyD.arr cap 9) (AV.agg (strs ts++j))),(bt,o)]=[(b,y5 cap ts j),(bt,o)] by
    rw[q8.er_cons,q8.er_cons,ho];rw[show (HObj.var (TyD.arr cap 9) (AV.agg (strs ts++j))).er=y5 cap ts j from hre];rfl]
   simpa[TV.er,AV.er,hfe]using this
  rintro r' H' ⟨rfl,rfl⟩
  rcases ZS g ts with⟨he,hall⟩|⟨i,hi,he,hs,_⟩
  ·have:ts.any g=false:=by simpa using hall
   simp (disch:=omega) [zz,he,this,Tryz.f103,hre,ho]
   rfl
  ·have h1:ts.any g=true:=by simp;exact⟨_,List.getElem_mem hi,hs⟩
   have h2:(0:Int)<=i:=by omega
   simp (disch:=omega) [zz,he,h1,h2,Tryz.f103,hre,ho]
   rfl
end
section
variable [Sel]
theorem zfv (ts:List Txt) (x:Txt) (hn:ts.length<=1000000000):PC Tryz.prog 91 [.av (.slice 9) (.sl .no (strs ts)),.av .str (.s x)] (.av (.int .i64) (.i .i64 (QJ (fun y=>decide (y=x)) ts))):=by
 refine zow Tryz.func91 cf0 fun imm0 w0=>?_
 simp (disch:=omega) [zz]
 refine AT.loop' (α:=Nat) (fun k=>St.of [(0,.av (.slice 9) (.sl .no (strs ts))),(1,.av .str (.s x)),(7,.av (.int .i64) (.i .i64 ts.length)),(8,.av (.int .i64) (.i .i64 k))] [] (fun _=>0) [])
  (fun k=>k<=ts.length/\∀y∈ts.take k,(fun y=>decide (y=x)) y=false) (fun k=>ts.length-k) 0 ?_ ?_ ?_
 ·apply Le.of<;>simp[zR,qI]
 ·simp
 rintro k ⟨hk',hpk⟩ KL hN hE
 refine zrd cf0 ?_
 by_cases hlt:k<ts.length
 ·have hlt':(k:Int)<ts.length:=by omega
  have hg:=xM ts k hlt
  by_cases hp:ts[k]=x
  ·have hp':x=ts[k]:=hp.symm
   have hi:=JR (p:=fun y=>decide (y=x)) hlt hpk (by simpa using hp)
   generalize ts[k]=y at *
   subst hp
   simp (disch:=omega) [zz,hlt',hg]
   refine hE _ _ (by simp) ?_
   simp (disch:=omega) [zz,Tryz.f91,hi]
  ·have hp':¬x=ts[k]:=fun e=>hp e.symm
   simp (disch:=omega) [zz,hlt',hg,hp']
   refine hN _ (k+1) ?_ ⟨by omega,by rw[yC hlt];exact⟨hpk,by simpa using hp⟩⟩ (by omega)
   apply Le.of<;>simp[zR,qI]
 ·have hlt':¬(k:Int)<ts.length:=by omega
  simp (disch:=omega) [zz,hlt']
  refine hE _ _ (by simp) ?_
  rw[List.take_of_length_le (by omega)]at hpk
  simp (disch:=omega) [zz,Tryz.f91,ZP (p:=fun y=>decide (y=x)) hpk]
theorem ZC (ts:List Txt) (x:Txt) (hn:ts.length<=1000000000):PC Tryz.prog 59 [.av (.slice 9) (.sl .no (strs ts)),.av .str (.s x)] (.av .bool (.b (decide (x∈ts)))):=by
 refine zow Tryz.func59 cf0 fun imm0 w0=>?_
 simp (disch:=omega) [zz]
 refine zcv (zfv ts x hn) ?_
 rcases ZS (fun y=>decide (y=x)) ts with⟨he,hall⟩|⟨i,hi,he,hs,_⟩
 ·have:¬x∈ts:=fun h=>by have:=hall x h;simp at this
  simp (disch:=omega) [zz,he,this,Tryz.f59]
 ·have h1:x∈ts:=by simp at hs;rw[<-hs];exact List.getElem_mem hi
  have h2:(0:Int)<=i:=by omega
  simp (disch:=omega) [zz,he,h1,h2,Tryz.f59]
end
section
variable [Sel] [SelPow] [SelMax]
def znu (f:AV) (Hs:q8) (g:Txt->Bool) (ts:List Txt):Prop:=Hs.er=Hs/\f.er=f/\∀x∈ts,VC1 f [.av .str (.s x)] Hs fun r H'=>r=.av .bool (.b (g x))/\H'=Hs
theorem zmh (g:Txt->Bool) (f:AV) (Hs:q8) (ts:List Txt) (hf:znu f Hs g ts) (hn:ts.length<=1000000000) :
  q7 Tryz.prog 134 [.av (.slice 9) (.sl .no (strs ts)),.av .func f] Hs
   fun r H'=>r=.av (.int .i64) (.i .i64 (QJ g ts))/\H'=Hs:=by
 obtain⟨ho,hfe,hff⟩:=hf
 refine zov Tryz.func134 cf0 fun imm0 w0=>?_
 simp (disch:=omega) [zz]
 refine AT.loop' (α:=Nat) (fun k=>St.of [(0,.av (.slice 9) (.sl .no (strs ts))),(1,.av .func f),(7,.av (.int .i64) (.i .i64 ts.length)),(8,.av (.int .i64) (.i .i64 k))] [] (fun _=>0) Hs)
  (fun k=>k<=ts.length/\∀x∈ts.take k,g x=false) (fun k=>ts.length-k) 0 ?_ ?_ ?_
 ·apply Le.of<;>simp[zR,qI]
 ·simp
 rintro k ⟨hk',hpk⟩ KL hN hE
 refine zrd cf0 ?_
 by_cases hlt:k<ts.length
 ·have hlt':(k:Int)<ts.length:=by omega
  have hg:=xM ts k hlt
  simp (disch:=omega) [zz,hlt',hg]
  refine Q6 (R:=fun r' H'=>r'=.av .bool (.b (g ts[k]))/\H'=Hs) Hs [] (by simp) ho (by simp[qE]) (hff _ (List.getElem_mem hlt)) ?_
  rintro r' H' ⟨rfl,rfl⟩ _
  refine⟨H',by simpa using HSub.refl _,?_⟩
  by_cases hp:g ts[k]=true
  ·simp (disch:=omega) [zz,hp]
   refine hE _ _ (by simp) ?_
   simp (disch:=omega) [zz,Tryz.f134,JR hlt hpk hp,ho]
  ·simp (disch:=omega) [zz,hp]
   refine hN _ (k+1) ?_ ⟨by omega,by rw[yC hlt];exact⟨hpk,by simpa using hp⟩⟩ (by omega)
   apply Le.of<;>simp[zR,qI]
 ·have hlt':¬(k:Int)<ts.length:=by omega
  simp (disch:=omega) [zz,hlt']
  refine hE _ _ (by simp) ?_
  rw[List.take_of_length_le (by omega)]at hpk
  simp (disch:=omega) [zz,Tryz.f134,ZP hpk,ho]
theorem U2 (g:Txt->Bool) (f:AV) (Hs:q8) (ts:List Txt) (hf:znu f Hs g ts) (hn:ts.length<=1000000000) :
  q7 Tryz.prog 103 [.av (.slice 9) (.sl .no (strs ts)),.av .func f] Hs fun r H'=>r=.av .bool (.b (ts.any g))/\H'=Hs:=by
 have ho:=hf.1
 have hfe:=hf.2.1
 have hek:AV.ers (strs ts)=strs ts:=VO ts
 refine zov Tryz.func103 cf0 fun imm0 w0=>?_
 simp (disch:=omega) [zz]
 refine qD (R:=fun r' H'=>r'=.av (.int .i64) (.i .i64 (QJ g ts))/\H'=Hs) Hs [] (by simp) rfl (by simp[qE]) (by simp) ?_ ?_
 ·rw[ho]
  have:=zmh g f Hs ts hf hn
  simpa[TV.er,AV.er,hek,hfe]using this
 rintro r' H' ⟨rfl,rfl⟩ _
 refine⟨H',by simpa using HSub.refl _,?_⟩
 rcases ZS g ts with⟨he,hall⟩|⟨i,hi,he,hs,_⟩
 ·have:ts.any g=false:=by simpa using hall
  simp (disch:=omega) [zz,he,this,Tryz.f103,ho]
 ·have h1:ts.any g=true:=by simp;exact⟨_,List.getElem_mem hi,hs⟩
  have h2:(0:Int)<=i:=by omega
  simp (disch:=omega) [zz,he,h1,h2,Tryz.f103,ho]
theorem xO (l:List Txt) (hl:l.length<=1000000):PC Tryz.prog 32 [.av (.slice 9) (.sl .no (strs l))] (.av (.slice 9) (.sl .no (strs l))):=by
 have hby:Tryz.prog.bytesOf 9=16:=by kernel_rfl
 refine zow Tryz.func32 cf0 fun imm0 w0=>?_
 simp (disch:=omega) [zz]
 refine⟨?_,?_⟩
 ·intro h
  have:l=[]:=by simpa[strs]using h
  subst this
  simp (disch:=omega) [zz,Tryz.f32,strs]
 ·simp (disch:=omega) [zz,yT,hby,Tryz.f32]
  omega
def YF (c:UInt8):Bool:=yH c.toNat
def zb6 (c:UInt8):Bool:=decide (c=63)||decide (c=42)
def uU:List UInt8->Bool
 | []=>true
 | c::r=>(YF c||zb6 c)&&(!KG (c::r) [42,42]&&uU r)
def XI (s:List UInt8):Bool:=decide (s=[42,42])||(uU s&&decide (1<=s.length/\s.length<=64/\s≠[46]/\s≠[46,46]))
def CK (p:List UInt8):Bool:=decide ((qK 47 p).length<=16)&&(qK 47 p).all XI
theorem zpB (c:UInt8):(w5 [97,c,97]&&decide (c≠47))=YF c:=by
 by_cases h:c=47
 ·subst h;decide
 ·have hs:qK 47 [97,c,97]=[[97,c,97]]:=DO _ (by simp[Ne.symm h])
  have h1:yH 97=true:=by decide
  unfold w5
  rw[hs]
  simp[XC,h1,h,YF]
theorem zkG (c:UInt8):PC Tryz.prog 162 [.av (.int .u8) (.i .u8 c.toNat)] (.av .bool (.b (YF c))):=by
 have hm:=zpB c
 by_cases h:c=47
 ·subst h
  have hb:w5 [97,47,97]=true:=by decide
  have hp:YF 47=false:=by decide
  refine zow Tryz.func162 cf0 fun imm0 w0=>?_
  simp (disch:=omega) [zz]
  refine zcv (YW [97,47,97] (by simp)) ?_
  simp (disch:=omega) [zz,hb,hp,Tryz.f162]
 have h':¬(c.toNat:Int)=47:=by have:=za9 (n:=47) (by omega) h;simpa using this
 have hd:decide (c≠47)=true:=by simpa using h
 rw[hd,Bool.and_true]at hm
 refine zow Tryz.func162 cf0 fun imm0 w0=>?_
 simp (disch:=omega) [zz]
 refine zcv (YW [97,c,97] (by simp)) ?_
 rw[hm]
 cases hp:YF c
 ·simp (disch:=omega) [zz,Tryz.f162,hp]
 ·simp (disch:=omega) [zz,h',Tryz.f162,hp]
theorem zjX {s:List UInt8} {k:Nat} {c:UInt8} (h:s[k]?=some c):uU (s.drop k)=((YF c||zb6 c)&&(!KG (s.drop k) [42,42]&&uU (s.drop (k+1)))):=by
 rw[ZE h,uU]
theorem zlu (s:List UInt8) (hs:s.length<=1000000000):PC Tryz.prog 133 [.av .str (.s s)] (.av .bool (.b (XI s))):=by
 refine zow Tryz.func133 cf0 fun imm0 w0=>?_
 by_cases h0:s=[42,42]
 ·have:XI s=true:=by simp[XI,h0]
  simp (disch:=omega) [zz,h0,Tryz.f133]
  rw[<-h0];exact this
 have hpg:XI s=(uU s&&decide (1<=s.length/\s.length<=64/\s≠[46]/\s≠[46,46])):=by simp[XI,h0]
 simp (disch:=omega) [zz,h0]
 refine AT.loop' (α:=Nat) (fun k=>St.of [(0,.av .str (.s s)),(7,.av (.int .i64) (.i .i64 s.length)),(8,.av (.int .i64) (.i .i64 k))] [] (fun _=>0) []) (fun k=>k<=s.length/\uU s=uU (s.drop k)) (fun k=>s.length-k) 0 ?_ ?_ ?_
 ·apply Le.of<;>simp[le9,z6]<;>try omega
 ·simp
 rintro k ⟨hk,hg⟩ KL hN hE
 refine zrd cf0 ?_
 by_cases hlt:k<s.length
 rotate_left
 ·have hlt':¬(k:Int)<s.length:=by omega
  rw[List.drop_of_length_le (by omega)]at hg
  have hgt:uU s=true:=hg
  simp (disch:=omega) [zz,hlt']
  refine hE _ _ (by simp) ?_
  rw[hpg,hgt,Bool.true_and]
  by_cases h1:1<=s.length
  rotate_left
  ·have h1':¬(1:Int)<=s.length:=by omega
   simp (disch:=omega) [zz,h1,h1',Tryz.f133]
  have h1':(1:Int)<=s.length:=by omega
  by_cases h2:s.length<=64
  rotate_left
  ·have h2':¬(s.length:Int)<=64:=by omega
   simp (disch:=omega) [zz,h1,h1',h2,h2',Tryz.f133]
  have h2':(s.length:Int)<=64:=by omega
  by_cases h3:s=[46]
  ·simp (disch:=omega) [zz,h3,Tryz.f133]
  by_cases h4:s=[46,46]
  ·simp (disch:=omega) [zz,h4,Tryz.f133]
  simp (disch:=omega) [zz,h1,h1',h2,h2',h3,h4,Tryz.f133]
 have hlt':(k:Int)<s.length:=by omega
 obtain⟨c,hc⟩:∃c,c=s[k]:=⟨_,rfl⟩
 have hsc:s[k]=c:=hc.symm
 have hgc:s[k]?=some c:=by rw[List.getElem?_eq_getElem hlt,hsc]
 have hat:=zjX hgc
 have hdl:(s.drop k).length<=1000000000:=by rw[List.length_drop];omega
 have bad:YF c=false->zb6 c=false->XI s=false:=by
  intro h1 h2
  rw[hpg,hg,hat,h1,h2];rfl
 have pre:KG (s.drop k) [42,42]=true->XI s=false:=by
  intro h1
  rw[hpg,hg,hat,h1];simp
 have on:(YF c||zb6 c)=true->KG (s.drop k) [42,42]=false->uU s=uU (s.drop (k+1)):=by
  intro h1 h2
  rw[hg,hat,h1,h2];rfl
 simp (disch:=omega) [zz,hlt',hsc]
 refine zcv (zkG c) ?_
 cases hp:YF c
 ·by_cases h63:c=63
  ·subst h63
   simp (disch:=omega) [zz,hsc]
   try (repeat with_reducible refine om ?_)
   refine qO (KV (s.drop k) [42,42] (by omega) (by simp)) rfl rfl (by simp) (by simp[qR,coC,TV.er,AV.er]) ?_
   cases hh:KG (s.drop k) [42,42]
   ·simp (disch:=omega) [zz,hh]
    refine hN _ (k+1) ?_ ⟨by omega,on (by decide) hh⟩ (by omega)
    apply Le.of<;>simp[le9,z6]<;>try omega
   ·simp (disch:=omega) [zz,hh]
    refine hE _ _ (by simp) ?_
    simp (disch:=omega) [zz,Tryz.f133,pre hh]
  have h63':¬(c.toNat:Int)=63:=by have:=za9 (n:=63) (by omega) h63;simpa using this
  by_cases h42:c=42
  ·subst h42
   simp (disch:=omega) [zz,hsc,h63']
   try (repeat with_reducible refine om ?_)
   refine qO (KV (s.drop k) [42,42] (by omega) (by simp)) rfl rfl (by simp) (by simp[qR,coC,TV.er,AV.er]) ?_
   cases hh:KG (s.drop k) [42,42]
   ·simp (disch:=omega) [zz,hh]
    refine hN _ (k+1) ?_ ⟨by omega,on (by decide) hh⟩ (by omega)
    apply Le.of<;>simp[le9,z6]<;>try omega
   ·simp (disch:=omega) [zz,hh]
    refine hE _ _ (by simp) ?_
    simp (disch:=omega) [zz,Tryz.f133,pre hh]
  have h42':¬(c.toNat:Int)=42:=by have:=za9 (n:=42) (by omega) h42;simpa using this
  have hw:zb6 c=false:=by simp[zb6,h63,h42]
  simp (disch:=omega) [zz,hsc,h63',h42']
  try (repeat with_reducible refine om ?_)
  refine hE _ _ (by simp) ?_
  simp (disch:=omega) [zz,Tryz.f133,bad hp hw]
 ·simp (disch:=omega) [zz,hsc]
  try (repeat with_reducible refine om ?_)
  refine qO (KV (s.drop k) [42,42] (by omega) (by simp)) rfl rfl (by simp) (by simp[qR,coC,TV.er,AV.er]) ?_
  cases hh:KG (s.drop k) [42,42]
  ·simp (disch:=omega) [zz,hh]
   refine hN _ (k+1) ?_ ⟨by omega,on (by rw[hp];rfl) hh⟩ (by omega)
   apply Le.of<;>simp[le9,z6]<;>try omega
  ·simp (disch:=omega) [zz,hh]
   refine hE _ _ (by simp) ?_
   simp (disch:=omega) [zz,Tryz.f133,pre hh]
theorem V4 (l:List UInt8) (hl:l.length<=2000000):PC Tryz.prog 131 [.av .str (.s l),.av .str (.s [47])] (.av (.slice 9) (.sl .no (strs (qK 47 l)))):=by
 refine cQ.freeze laid (by simp) ((zcY l 47 hl).mono ?_)
 rintro r H' ⟨b,rfl,rfl⟩
 exact .inr ⟨b,rfl,rfl⟩
theorem zlX (x:List UInt8) (hx:x.length<=1000000000):PC Tryz.prog 132 [.av .str (.s x)] (.av .bool (.b (!XI x))):=by
 refine zow Tryz.func132 cf0 fun imm0 w0=>?_
 simp (disch:=omega) [zz]
 refine zcv (zlu x hx) ?_
 simp (disch:=omega) [zz,Tryz.f132]
theorem zgG (p:List UInt8) (hp:p.length<=2000000):PC Tryz.prog 102 [.av .str (.s p)] (.av .bool (.b (CK p))):=by
 refine zow Tryz.func102 cf0 fun imm0 w0=>?_
 have hle:=U0 47 p
 have hlen:∀x∈qK 47 p,x.length<=p.length:=fun x hx=>QN 47 p x hx
 simp (disch:=omega) [zz]
 refine qO (V4 p hp) rfl rfl (by simp) (by simp[qR,coC,TV.er,AV.er]) ?_
 by_cases h16:(qK 47 p).length<=16
 ·have h16':((qK 47 p).length:Int)<=16:=by omega
  simp (disch:=omega) [zz,h16']
  refine qD (R:=fun r H'=>r=.av .bool (.b ((qK 47 p).any fun x=>!XI x))/\H'=[]) [] [] (by simp) rfl (by simp[qE]) (by simp) ?_ ?_
  ·have:=U2 (fun x=>!XI x) (.fn 132 []) [] (qK 47 p) ⟨rfl,rfl,fun x hx=>⟨[],rfl,by simp,by have h9:=zlX x (by have:=hlen x hx;omega);unfold PC at h9;simpa[TV.er,AV.er]using h9⟩⟩ (by omega)
   simpa[TV.er,AV.er]using this
  rintro r H' ⟨rfl,rfl⟩ _
  refine⟨[],by simpa using HSub.refl _,?_⟩
  have he:CK p=!((qK 47 p).any fun x=>!XI x):=by
   simp only[CK,h16,decide_true,Bool.true_and,List.all_eq_not_any_not]
  simp (disch:=omega) [zz,Tryz.f102,he]
 ·have h16':¬((qK 47 p).length:Int)<=16:=by omega
  simp (disch:=omega) [zz,h16',Tryz.f102,CK,h16]
end
end Go.Proofs.YtdkieabmeiojjaaGreatDoor
