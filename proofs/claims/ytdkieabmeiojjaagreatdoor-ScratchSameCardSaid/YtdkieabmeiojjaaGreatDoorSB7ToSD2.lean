/- Two reports are held against one another: the program, to its end. No condition. -/
import Derived.Test.YtdkieabmeiojjaaGreatDoorSBFToSB5
set_option linter.unusedSimpArgs false
set_option linter.unusedVariables false
set_option linter.unusedSectionVars false
set_option maxHeartbeats 64000000
set_option maxRecDepth 100000
namespace Go.Proofs.YtdkieabmeiojjaaGreatDoor
open Go Go.Ab
open Classical
section
variable [Sel] [SelPow] [SelMax]
structure zqJ where
 outs:List wZ
 ran:List Nat
 files:List jK
def yA (l:List wZ):AV:=.sl .no (l.map z7)
theorem vP (l:List wZ):(yA l).er=yA l:=by simp[yA,AV.er,AV.ers_eq,Function.comp_def]
theorem zkp {a b:List wZ} (hl:a.length=b.length) (h:∀k (h1:k<a.length) (h2:k<b.length),a[k]=b[k]):a=b :=
 List.ext_getElem hl h
theorem zio (a b:List wZ) (ha:a.length<=9223372036854775807) (hb:b.length<=9223372036854775807) (hda:∀o∈a,zjw o) (hdb:∀o∈b,zjw o) :
  PC Tryz.prog 14 [.av (.slice 31) (yA a),.av (.slice 31) (yA b),.av .func (.fn 15 [])] (.av .bool (.b (decide (a=b)))):=by
 have he1:yA a=.sl .no (a.map z7):=rfl
 have he2:yA b=.sl .no (b.map z7):=rfl
 rw[he1,he2]
 refine zow Tryz.func14 cf0 fun imm0 w0=>?_
 by_cases hn:a.length=b.length
 rotate_left
 ·have hn':¬(a.length:Int)=b.length:=by omega
  have hne:¬a=b:=fun e=>hn (by rw[e])
  simp (disch:=omega) [zz,hn',hn,hne,Tryz.f14]
 have hn':(a.length:Int)=b.length:=by omega
 simp (disch:=omega) [zz,hn',hn]
 refine AT.loop' (α:=Nat) (fun k=>St.of [(1,.av (.slice 31) (.sl .no (b.map z7))),(2,.av .func (.fn 15 [])),(15,.av (.slice 31) (.sl .no (a.map z7))),(16,.av (.int .i64) (.i .i64 b.length)),(17,.av (.int .i64) (.i .i64 k))] [] (fun _=>0) [])
  (fun k=>k<=b.length/\∀j (h1:j<a.length) (h2:j<b.length),j<k->a[j]=b[j]) (fun k=>b.length-k) 0 ?_ ?_ ?_
 ·apply Le.of<;>simp[zR,qI,hn]<;>try omega
 ·exact⟨by simp,fun j _ _ h=>absurd h (by omega)⟩
 rintro k ⟨hk,hp⟩ KL hN hE
 refine zrd cf0 ?_
 by_cases hlt:k<b.length
 ·have hlt':(k:Int)<b.length:=by omega
  have hlt2:k<a.length:=by omega
  have hg1:=kG z7 a k hlt2
  have hg2:=kG z7 b k hlt
  have hm1:=zlp a[k] b[k] (hda _ (List.getElem_mem hlt2)) (hdb _ (List.getElem_mem hlt))
  obtain⟨m,hm⟩:∃m,m=a[k]:=⟨_,rfl⟩
  obtain⟨f,hf⟩:∃f,f=b[k]:=⟨_,rfl⟩
  rw[<-hm]at hg1 hm1
  rw[<-hf]at hg2 hm1
  have hme:=Q5 m
  have hfe:=Q5 f
  obtain⟨X,hX⟩:∃X,X=z7 m:=⟨_,rfl⟩
  obtain⟨Y,hY⟩:∃Y,Y=z7 f:=⟨_,rfl⟩
  rw[<-hX]at hg1 hm1 hme
  rw[<-hY]at hg2 hm1 hfe
  simp (disch:=omega) [zz,hlt',hg1,hg2,hn]
  refine qO hm1 rfl rfl (by simp) (by simp[qR,TV.er,hme,hfe]) ?_
  by_cases he:m=f
  ·simp (disch:=omega) [zz,he]
   refine hN _ (k+1) ?_ ⟨by omega,fun j h1 h2 h3=>?_⟩ (by omega)
   ·apply Le.of<;>simp[zR,qI,hn]<;>try omega
   ·by_cases hj:j=k
    ·subst hj;rw[<-hm,<-hf];exact he
    ·exact hp j h1 h2 (by omega)
  ·have hne:¬a=b:=fun e=>he (by
    rw[hm,hf];simp only[e])
   simp (disch:=omega) [zz,he]
   refine hE _ _ (by simp) ?_
   simp (disch:=omega) [zz,hne,Tryz.f14]
 ·have hlt':¬(k:Int)<b.length:=by omega
  have heq:a=b:=zkp hn fun j h1 h2=>hp j h1 h2 (by omega)
  have hdt:decide (a=b)=true:=decide_eq_true heq
  simp (disch:=omega) [zz,hlt']
  refine hE _ _ (by simp) ?_
  simp (disch:=omega) [zz,hdt,Tryz.f14]
structure V9 where
 outs:List wZ
 ran:List Int
 took:List Int
 files:List jK
def kB (r:V9):AV:=.agg [yA r.outs,.sl .no (r.ran.map (.i .i64 ·)),.sl .no (r.took.map (.i .i64 ·)),qL r.files]
structure zob (r:V9):Prop where
 o:r.outs.length<=9223372036854775807
 f:r.files.length<=9223372036854775807
 d:∀o∈r.outs,zjw o
noncomputable abbrev YQ:TyD:=q9 Tryz.prog 26
theorem c9 (a b:V9) (ha:zob a) (hb:zob b):PC Tryz.prog 6 [.av YQ (kB a),.av YQ (kB b)] (.av .bool (.b (decide (a.outs=b.outs)&&decide (a.files=b.files)))):=by
 have h1:=zio a.outs b.outs ha.o hb.o ha.d hb.d
 have h2:=za3 a.files b.files (by have:=ha.f;omega) (by have:=hb.f;omega)
 have e1:=vP a.outs
 have e2:=vP b.outs
 have e3:=j6 a.files
 have e4:=j6 b.files
 refine zow Tryz.func6 cf0 fun imm0 w0=>?_
 simp (disch:=omega) [zz,kB]
 refine qO h1 rfl rfl (by simp) (by simp[qR,TV.er,AV.er,AV.ers,e1,e2]) ?_
 by_cases h:a.outs=b.outs
 ·simp (disch:=omega) [zz,h]
  refine qO h2 rfl rfl (by simp) (by simp[qR,TV.er,AV.er,e3,e4]) ?_
  simp (disch:=omega) [zz,h,Tryz.f6]
 ·simp (disch:=omega) [zz,h,Tryz.f6]
theorem za8 {P:Program} {imm:Nat->Nat} {w:World}:∀ {xs:List (TyD × AV)} {vs:List Value},VVs P (g0 imm) w xs vs->VVs P (g0 imm) w (xs.map fun p=>(p.1,p.2.er)) vs
 | [],[],_=>trivial
 | (_,x)::_,_::_,h=>⟨⟨h.1.1,x9 x _ _ h.1.2⟩,za8 h.2⟩
 | [],_::_,h=>h.elim
 | _::_,[],h=>h.elim
theorem zpk {P:Program} {imm:Nat->Nat} {w:World} {r:TV} {v:Value} (h:AR P (g0 imm) w r v):AR P (g0 imm) w r.er v:=by
 cases r with
 | av d x=>exact⟨h.1,x9 x _ _ h.2⟩
 | tup l=>obtain⟨us,h1,h2⟩:=h;exact⟨us,h1,za8 h2⟩
 | _=>exact h
theorem q7.erR {P:Program} {f:FuncId} {args:List TV} {H:q8} {R:TV->q8->Prop} (h:q7 P f args H R):q7 P f args H fun r H'=>∃r0,R r0 H'/\r=r0.er:=by
 intro imm w vs h1 h2
 refine(h imm w vs h1 h2).mono ?_
 rintro e' w' ⟨v,r,imm',H',a,hR,hv,hrep,st⟩
 exact⟨v,r.er,imm',H',a,⟨r,hR,rfl⟩,zpk hv,hrep,st⟩
theorem zbS (p:Txt):∀l:List Txt,p∈jJ l<->p∈l
 | []=>by simp[jJ]
 | [x]=>by simp[jJ]
 | x::y::r=>by
  have ih:=zbS p (y::r)
  unfold jJ
  split
  ·rename_i h
   rw[ih,h];simp
  ·rw[List.mem_cons,ih,List.mem_cons (b:=x)]
theorem zif (p:Txt) (l:List Txt):p∈k7 l<->p∈l:=(ZO l).mem_iff
def zbZ (w:zV) (l:List Txt) (j:Nat):Prop:=∃p∈l,∃m,wJ w.acts p=some m/\(j=m\/Relation.TransGen (KC (qW w)) m j)
def yP (w:zV) (j:Nat):Prop:=zbZ w w.wants j
noncomputable def zdo (w:zV) (p:Txt):Option jK:=if (JD (qW w) [] p).2=1/\(JD (qW w) [] p).1.is=true then some ⟨p,(JD (qW w) [] p).1.data⟩ else none
noncomputable def cR (w:zV) (l:List Txt):List jK:=l.filterMap (zdo w)
theorem zgn (w:zV) (l:List Txt) (p:Txt):cR w (l++[p])=cR w l++(zdo w p).toList:=by
 unfold cR
 rw[List.filterMap_append]
 cases h:zdo w p<;>simp[h]
theorem ziH (w:zV) (l:List Txt):(cR w l).length<=l.length:=List.length_filterMap_le _ _
noncomputable def Z5 (w:zV):List Txt:=jJ (k7 w.wants)
theorem cK (w:zV) (p:Txt):p∈Z5 w<->p∈w.wants:=by unfold Z5;rw[zbS,zif]
theorem zfX (w:zV):(Z5 w).length<=w.wants.length:=by
 unfold Z5
 have:=GI (k7 w.wants)
 rw[Q9]at this
 exact this
def zqc:wZ:=⟨0,0,[],[]⟩
noncomputable def zdh (w:zV):List wZ:=(List.range w.acts.length).map fun i=>if yP w i then kS (qW w) i else zqc
noncomputable def PT (w:zV) (k:Nat):List Int:=((List.range k).filter fun i=>decide (yP w i)).map fun i:Nat=>(i:Int)
theorem zhS (w:zV) (k:Nat):PT w (k+1)=PT w k++if yP w k then [(k:Int)] else []:=by
 unfold PT
 rw[List.range_succ,List.filter_append,List.map_append]
 by_cases h:yP w k<;>simp[h]
theorem zlk (w:zV) (k:Nat):(PT w k).length<=k:=by
 unfold PT
 rw[List.length_map]
 exact Nat.le_trans (List.length_filter_le _ _) (by simp)
noncomputable def WH (w:zV):V9:=⟨zdh w,PT w w.acts.length,[],cR w (Z5 w)⟩
noncomputable def zi9 (w:zV):V9 × Int:=if X0 w≠0 then(⟨[],[],[],[]⟩,X0 w) else(WH w,0)
structure BuI (w:zV) (l:List Txt) (x:BdV):Prop where
 ok:KN (qW w) w.acts.length [] x
 mak:∀p∈l,∀j,wJ w.acts p=some j->j∈x.ov.map Prod.fst
 ask:∀j∈x.ov.map Prod.fst,zbZ w l j
theorem BuI.start (w:zV):BuI w [] ⟨[],[]⟩:=⟨.none _ _,fun p h=>by simp at h,fun j h=>by simp at h⟩
theorem BuI.step {w:zV} {l:List Txt} {x x':BdV} {p:Txt} (h:BuI w l x) (h1:KN (qW w) w.acts.length [] x') (h2:∀j,j∈x.ov.map Prod.fst->j∈x'.ov.map Prod.fst)
  (h3:∀j,wJ w.acts p=some j->j∈([]:List Nat)\/j∈x'.ov.map Prod.fst) (h4:ziO (qW w) x x' p):BuI w (l++[p]) x' where
 ok:=h1
 mak:=fun q hq j hj=>by
  rcases List.mem_append.1 hq with hq|hq
  ·exact h2 j (h.mak q hq j hj)
  ·rw[List.mem_singleton.1 hq]at hj
   simpa using h3 j hj
 ask:=fun j hj=>by
  rcases h4 j hj with h5|⟨m,h5,h6⟩
  ·obtain⟨q,hq,m,h6⟩:=h.ask j h5
   exact⟨q,List.mem_append_left _ hq,m,h6⟩
  ·exact⟨p,List.mem_append_right _ (List.mem_singleton.2 rfl),m,h5,h6⟩
theorem BuI.trans {w:zV} {l:List Txt} {x:BdV} (h:BuI w l x) {m j:Nat} (hj:Relation.TransGen (KC (qW w)) m j) (hm:m∈x.ov.map Prod.fst):j∈x.ov.map Prod.fst:=by
 have step:∀ {a b:Nat},a∈x.ov.map Prod.fst->KC (qW w) a b->b∈x.ov.map Prod.fst:=fun {a b} ha hb=>by
  obtain⟨p,hp,rfl⟩:=List.mem_map.1 ha
  simpa using h.ok.cl p hp b hb
 induction hj with
 | single h1=>exact step hm h1
 | tail _ h1 ih=>exact step ih h1
theorem BuI.iff {w:zV} {l:List Txt} {x:BdV} (h:BuI w l x) (j:Nat):j∈x.ov.map Prod.fst<->zbZ w l j:=by
 refine⟨h.ask j,?_⟩
 rintro⟨p,hp,m,hm,h1⟩
 have h2:=h.mak p hp m hm
 rcases h1 with rfl|h1
 ·exact h2
 ·exact h.trans h1 h2
theorem BuI.all {w:zV} {x:BdV} (h:BuI w (Z5 w) x) (j:Nat):j∈x.ov.map Prod.fst<->yP w j:=by
 rw[h.iff]
 unfold yP zbZ
 constructor
 ·rintro⟨p,hp,h1⟩;exact⟨p,(cK w p).1 hp,h1⟩
 ·rintro⟨p,hp,h1⟩;exact⟨p,(cK w p).2 hp,h1⟩
theorem BuI.find {w:zV} {x:BdV} (h:BuI w (Z5 w) x) (j:Nat):wQ (.i .i64 (j:Int)) (ovE x.ov)=if yP w j then some (z7 (kS (qW w) j)) else none:=by
 rw[dP]
 cases hf:x.ov.find? fun p=>decide (p.1=j)with
 | none =>
  have:¬yP w j:=fun ha=>by
   obtain⟨p,hp,he⟩:=List.mem_map.1 ((h.all j).2 ha)
   rw[List.find?_eq_none]at hf
   have:=hf p hp
   simp at this
   exact this he
  rw[if_neg this];rfl
 | some q =>
  have h1:q.1=j:=by simpa using List.find?_some hf
  have h2:=h.ok.fin q (List.mem_of_find?_eq_some hf)
  have:yP w j:=(h.all j).1 (List.mem_map.2 ⟨q,List.mem_of_find?_eq_some hf,h1⟩)
  rw[if_pos this,Option.map_some,h2.2,h1]
noncomputable def WW (w:zV) (k:Nat):List AV:=(List.range w.acts.length).map fun i=>if i<k/\yP w i then z7 (kS (qW w) i) else zkw
theorem zbF (w:zV) (k:Nat):(WW w k).length=w.acts.length:=by simp[WW]
theorem zfj (w:zV):List.replicate w.acts.length zkw=WW w 0:=by
 unfold WW
 apply List.ext_getElem
 ·simp
 ·intro i h1 h2;simp
theorem zf6 (w:zV) (k:Nat) (hk:k<w.acts.length):WW w (k+1)=if yP w k then(WW w k).set k (z7 (kS (qW w) k)) else WW w k:=by
 unfold WW
 split
 ·rename_i h
  apply List.ext_getElem
  ·simp
  ·intro i h1 h2
   rw[List.getElem_set]
   simp only[List.getElem_map,List.getElem_range]
   by_cases hik:k=i
   ·subst hik;rw[if_pos ⟨by omega,h⟩,if_pos rfl]
   ·rw[if_neg hik]
    have:(i<k+1/\yP w i)<->(i<k/\yP w i):=by constructor<;>rintro⟨a,b⟩<;>exact⟨by omega,b⟩
    simp only[this]
 ·rename_i h
  apply List.map_congr_left
  intro i hi
  have:(i<k+1/\yP w i)<->(i<k/\yP w i):=by
   constructor
   ·rintro⟨a,b⟩
    refine⟨?_,b⟩
    rcases Nat.lt_or_ge i k with h3|h3
    ·exact h3
    ·have:i=k:=by omega
     subst this;exact absurd b h
   ·rintro⟨a,b⟩;exact⟨by omega,b⟩
  simp only[this]
theorem ziR (w:zV):AV.ers (WW w w.acts.length)=(zdh w).map z7:=by
 unfold WW zdh
 rw[AV.ers_eq,List.map_map,List.map_map]
 apply List.map_congr_left
 intro i hi
 have hi:=List.mem_range.1 hi
 simp only[Function.comp_def]
 by_cases h:yP w i
 ·rw[if_pos ⟨hi,h⟩,if_pos h];exact Q5 _
 ·rw[if_neg (fun g=>h g.2),if_neg h];rfl
noncomputable def mO (w:zV) (k:Nat):HObj:=.var (.arr w.acts.length 31) (.agg (WW w k))
theorem zpA (w:zV) (k:Nat):(mO w k).er=mO w k:=by
 unfold mO WW
 rw[HObj.er_var]
 simp only[AV.erk,AV.erks_eq,List.map_map]
 congr 2
 apply List.map_congr_left
 intro i _
 simp only[Function.comp_def]
 split
 ·exact zeZ _
 ·rfl
abbrev zom:Cfg:=⟨fun _=>false,fun _=>false⟩
theorem zjo (ts:List Txt) (v:AV) (H:q8) (hrow:J1 ts v H) (hn:ts.length<=1000000000) :
  q7 Tryz.prog 34 [.av (.slice 9) v] H fun r H'=>r=.av (.slice 9) (.sl .no (strs (jJ ts)))/\H'=[]:=by
 refine(cA ts v H hrow hn).freeze laid ?_
 rintro r H' ⟨v',rfl,⟨h1,rfl,rfl⟩|⟨b,cap,j,hj,rfl,hc,rfl⟩⟩ _
 ·exact .inr ⟨by rw[h1];rfl,rfl⟩
 ·refine .inl ⟨b,cap,9,_,[],List.Perm.refl _,?_,rfl⟩
  simp only[zaK,fzA]
  rw[if_pos ⟨trivial,trivial,by omega,by omega⟩,List.drop_zero,List.take_left' (by simp[strs])]
noncomputable def flK (w:zV) (k:Nat):List jK:=cR w ((Z5 w).take k)
theorem zmo (w:zV):flK w (Z5 w).length=cR w (Z5 w):=by unfold flK;rw[List.take_length]
theorem zjL (w:zV) (k:Nat) (h:k<(Z5 w).length):flK w (k+1)=flK w k++(zdo w (Z5 w)[k]).toList:=by
 unfold flK
 rw[List.take_succ_eq_append_getElem h,zgn]
theorem zmm (w:zV) (k:Nat):(flK w k).length<=(Z5 w).length:=Nat.le_trans (ziH w _) (by rw[List.length_take];omega)
theorem zix (w:zV) (hc:WkC w):q7 Tryz.prog 12 [.av CZ (yV w)] [] fun r H' =>
  (X0 w=0/\∃M rest,r=.tup [(YQ,.agg [.msl M 31 0 w.acts.length w.acts.length,.sl .no ((WH w).ran.map (.i .i64 ·)),.sl .no [],qL (WH w).files]),(.int .i64,.i .i64 0)]/\H'=(M,mO w w.acts.length)::rest)\/
  (X0 w≠0/\r=.tup [(YQ,kB ⟨[],[],[],[]⟩),(.int .i64,.i .i64 (X0 w))]):=by
 have hch:=zbJ w hc
 have hew:=cS w
 have hbg:=zbT w
 obtain⟨W,hW⟩:∃W,W=yV w:=⟨_,rfl⟩
 have hWE:W=.agg [qL w.files,.sl .no (w.acts.map wW),.sl .no (strs w.wants),.b w.keep]:=hW
 rw[<-hW]at hch hew hbg
 rw[<-hW]
 refine zov Tryz.func12 zom fun imm0 w0=>?_
 simp (disch:=omega) [zz]
 refine qO hch rfl rfl (by simp) (by simp[qR,TV.er,hew]) ?_
 by_cases h1:X0 w=0
 rotate_left
 ·simp (disch:=omega) [zz,h1,Tryz.f12,kB,qL,yA]
 have hw:=hc.ok h1
 have hwn:w.wants.length<=1000:=by
  unfold X0 at h1
  split at h1
  ·exact absurd h1 (by assumption)
  ·split at h1
   ·exact absurd h1 (by assumption)
   ·split at h1
    ·omega
    ·omega
 have han:=hw.n
 simp (disch:=omega) [zz,h1]
 refine qD (R:=fun r H'=>∃B O Y T,r=.av .ptr (.ptr B BdT [])/\H'=bdH B O Y T w [] ⟨[],[]⟩) [] [] (by simp) rfl (by simp[qE]) (by simp) ?_ ?_
 ·simpa[TV.er,hew,q8.er_nil]using hbg
 rintro r H ⟨B,O,Y,T,rfl,rfl⟩ hnd
 refine⟨bdH B O Y T w [] ⟨[],[]⟩,by simpa using HSub.refl _,?_⟩
 have hne:=zha (by simpa using hnd)
 have n1:=hne.bo
 have m1:¬B=O:=fun e=>n1 e.symm
 obtain⟨WL,hWL⟩:∃WL,WL=Z5 w:=⟨_,rfl⟩
 have hwl:=zfX w
 rw[<-hWL]at hwl
 simp (disch:=omega) [zz,hWE]
 refine⟨by omega,by omega,fun M hM=>?_⟩
 have hMk:¬M=B/\¬M=O/\¬M=Y/\¬M=T:=by
  simpa[bdH,q8.keys,not_or]using hM
 obtain⟨q1,q2,q3,q4⟩:=hMk
 obtain⟨rest,hrest⟩:∃rest,rest=(M,mO w 0)::bdH B O Y T w [] ⟨[],[]⟩:=⟨_,rfl⟩
 have hcl:=zhv w.wants (by omega)
 have hse:AV.ers (strs w.wants)=strs w.wants:=by simp[strs,AV.ers_eq,Function.comp_def,AV.er]
 refine qD (R:=fun r H'=>∃v,r=.av (.slice 9) v/\J1 w.wants v H') [] rest (by rw[hrest];unfold mO;rw[<-zfj];exact List.Perm.refl _) rfl (by simp[qE]) (by simp) ?_ ?_
 ·simpa[TV.er,AV.er,hse,q8.er_nil]using hcl
 rintro r H1 ⟨v1,rfl,hr1⟩ _
 refine⟨H1++rest,HSub.refl _,?_⟩
 obtain⟨z1,z2⟩:=hr1.er
 simp (disch:=omega) [zz]
 refine qD (R:=fun r H'=>r=.tup []/\J1 (k7 w.wants) v1 H') H1 rest (List.Perm.refl _) rfl (by simp[qE]) (by simp) ?_ ?_
 ·have:=CR w.wants v1 H1 hr1 (by omega)
  simpa[TV.er,z1,z2]using this
 rintro r H2 ⟨rfl,hr2⟩ _
 refine⟨H2++rest,HSub.refl _,?_⟩
 obtain⟨z3,z4⟩:=hr2.er
 simp (disch:=omega) [zz]
 refine qD (R:=fun r H'=>r=.av (.slice 9) (.sl .no (strs WL))/\H'=[]) H2 rest (List.Perm.refl _) rfl (by simp[qE]) (by simp) ?_ ?_
 ·have:=zjo (k7 w.wants) v1 H2 hr2 (by rw[Q9];omega)
  rw[hWL]
  simpa[TV.er,z3,z4,Z5]using this
 rintro r H3 ⟨rfl,rfl⟩ _
 refine⟨rest,by simpa using HSub.refl _,?_⟩
 rw[hrest]
 have hsl:=jS WL
 simp (disch:=omega) [zz,hsl]
 refine AT.loop' (α:=Nat × BdV) (fun q=>St.of [(1,.loc 1 []),(2,.loc 2 []),(5,.av .ptr (.ptr B BdT [])),(6,.loc 6 []),(34,.av (.slice 9) (.sl .no (strs WL))),(35,.av (.int .i64) (.i .i64 WL.length)),(36,.av (.int .i64) (.i .i64 q.1))]
  [(1,(CZ,W)),(2,(YQ,.agg [.sl .full [],.sl .full [],.sl .full [],.sl .full []])),(6,(YQ,.agg [.msl M 31 0 w.acts.length w.acts.length,.sl .full [],.sl .full [],.sl (tkG 59 (flK w q.1).length) ((flK w q.1).map zK)]))]
  (fun j=>if j=59 then(flK w q.1).length else 0) ((M,mO w 0)::bdH B O Y T w [] q.2)) (fun q=>q.1<=WL.length/\BuI w (WL.take q.1) q.2) (fun q=>WL.length-q.1) (0,⟨[],[]⟩) ?_ ⟨by omega,.start w⟩ ?_
 ·have h0:flK w 0=[]:=rfl
  apply Le.of<;>simp[zR,qI,z6,tkG,h0,hWE]<;>try omega
 rintro⟨k,x⟩ ⟨hkn,hbu⟩ KL hN hE
 simp only at hkn hbu hN
 refine zrd zom ?_
 by_cases hlt:k<WL.length
 ·have hlt':(k:Int)<WL.length:=by omega
  have hg:=xM WL k hlt
  have hfs:=zjL w k (by rw[<-hWL];exact hlt)
  have htk:WL.take (k+1)=WL.take k++[WL[k]]:=List.take_succ_eq_append_getElem hlt
  obtain⟨p,hp⟩:∃p,p=WL[k]:=⟨_,rfl⟩
  have hpw:(Z5 w)[k]'(by rw[<-hWL];exact hlt)=p:=by rw[hp];simp only[hWL]
  rw[hpw]at hfs
  have hg2:(strs WL)[k]'(by rw[hsl];exact hlt)=.s p:=by rw[hp];simp[strs]
  rw[<-hp]at hg htk
  have hcome:=ze5 B O Y T w hw [] p x hbu.ok fun j hm _=>zeD B O Y T w hw j x hbu.ok (by obtain⟨hj,_⟩:=zaj hm;exact hj)
  have hHe:=YD B O Y T w [] x
  simp (disch:=omega) [zz,hlt',hg,hg2,hsl]
  refine qD (R:=ziV B O Y T w [] p x) (bdH B O Y T w [] x) [(M,mO w 0)] (List.perm_append_comm (l₁:=[_])) rfl (by simp[qE]) (by simp) ?_ ?_
  ·rw[hHe];simpa[TV.er,AV.er]using hcome
  rintro r H' ⟨x',rfl,g1,g2,g3,g4,rfl⟩ _
  refine⟨(M,mO w 0)::bdH B O Y T w [] x',HSub.of_perm (List.perm_append_comm (l₂:=[_])),?_⟩
  have hbu':BuI w (WL.take (k+1)) x':=by rw[htk];exact hbu.step g1 g2 g3 g4
  unfold zdo at hfs
  generalize JD (qW w) [] p=kc at hfs
  obtain⟨kn,c⟩:=kc
  simp only at hfs
  have hwl3:=zmm w k
  rw[<-hWL]at hwl3
  have hfin:∀e:List jK,flK w (k+1)=flK w k++e->(flK w (k+1)).length=(flK w k).length+e.length:=fun e h=>by rw[h,List.length_append]
  by_cases hyes:c=1/\kn.is=true
  ·rw[if_pos hyes]at hfs
   simp only[Option.toList_some]at hfs
   have hfl:=hfin _ hfs
   simp only[List.length_singleton]at hfl
   obtain⟨y1,y2⟩:=hyes
   simp (disch:=omega) [zz,jD,y1,y2]
   refine xQ (by simp) (by simp;omega) (by simp;omega) (by simp) (by simp) ?_
   simp (disch:=omega) [zz]
   refine hN _ (k+1,x') ?_ ⟨by simp only;omega,hbu'⟩ (by simp only;omega)
   rw[hfl,hfs]
   apply Le.of<;>simp[zR,qI,z6,zK]<;>try omega
   all_goals (intro j;by_cases hj:j=59<;>simp[hj])
  ·rw[if_neg hyes]at hfs
   simp only[Option.toList_none,List.append_nil]at hfs
   by_cases y1:c=1
   ·have y2:kn.is=false:=by simpa[y1]using hyes
    simp (disch:=omega) [zz,jD,y1,y2]
    refine hN _ (k+1,x') ?_ ⟨by simp only;omega,hbu'⟩ (by simp only;omega)
    rw[hfs]
    apply Le.of<;>simp[zR,qI,z6]<;>try omega
   ·simp (disch:=omega) [zz,jD,y1]
    refine hN _ (k+1,x') ?_ ⟨by simp only;omega,hbu'⟩ (by simp only;omega)
    rw[hfs]
    apply Le.of<;>simp[zR,qI,z6]<;>try omega
 ·have hkn2:k=WL.length:=by omega
  subst hkn2
  have hlt':¬(WL.length:Int)<WL.length:=by omega
  rw[List.take_length]at hbu
  rw[hWL]at hbu
  simp (disch:=omega) [zz,hlt',hsl]
  refine hE _ _ (by simp) ?_
  clear hN hE
  have hHe:=YD B O Y T w [] x
  have hfnd:=fun j=>BuI.find hbu j
  obtain⟨F,hF⟩:∃F,F=flK w WL.length:=⟨_,rfl⟩
  rw[<-hF]
  have hr0:PT w 0=[]:=rfl
  simp (disch:=omega) [zz,hWE]
  refine AT.loop' (α:=Nat) (fun k=>St.of [(2,.loc 2 []),(5,.av .ptr (.ptr B BdT [])),(6,.loc 6 []),(64,.av (.int .i64) (.i .i64 w.acts.length)),(65,.av (.int .i64) (.i .i64 k))]
   [(2,(YQ,.agg [.sl .full [],.sl .full [],.sl .full [],.sl .full []])),(6,(YQ,.agg [.msl M 31 0 w.acts.length w.acts.length,.sl (tkG 87 (PT w k).length) ((PT w k).map (.i .i64 ·)),.sl .full [],.sl (tkG 59 F.length) (F.map zK)]))]
   (fun j=>if j=87 then(PT w k).length else if j=59 then F.length else 0) ((M,mO w k)::bdH B O Y T w [] x)) (fun k=>k<=w.acts.length) (fun k=>w.acts.length-k) 0 ?_ (by omega) ?_
  ·apply Le.of<;>simp[zR,qI,z6,tkG,hr0]<;>try omega
   intro j;by_cases h8:j=87<;>by_cases h5:j=59<;>simp[h8,h5]<;>omega
  rintro k hk KL hN hE
  refine zrd zom ?_
  by_cases hlt:k<w.acts.length
  ·have hlt':(k:Int)<w.acts.length:=by omega
   have hf:=hfnd k
   have hos:=zf6 w k hlt
   have hrs:=zhS w k
   have hrl:=zlk w k
   have hol:=zbF w k
   by_cases ha:yP w k
   ·rw[if_pos ha]at hf hos hrs
    have hrl2:(PT w (k+1)).length=(PT w k).length+1:=by rw[hrs];simp
    have hm:(M,mO w (k+1))=(M,HObj.var (.arr w.acts.length 31) (.agg ((WW w k).set k (z7 (kS (qW w) k))))):=by unfold mO;rw[hos]
    simp (disch:=omega) [zz,hlt',KJ,q1,q2,q3,q4,n1,m1,hf,mO,hol,hlt]
    refine xQ (by simp) (by simp;omega) (by simp;omega) (by simp) (by simp) ?_
    simp (disch:=omega) [zz]
    refine hN _ (k+1) ?_ (by omega) (by omega)
    rw[hm,hrl2,hrs]
    apply Le.of<;>simp[zR,qI,z6,KJ]<;>try omega
    all_goals (intro j;by_cases h8:j=87<;>by_cases h5:j=59<;>simp[h8,h5])
   ·rw[if_neg ha]at hf hos hrs
    have hm:(M,mO w (k+1))=(M,mO w k):=by unfold mO;rw[hos]
    rw[List.append_nil]at hrs
    simp (disch:=omega) [zz,hlt',KJ,q1,q2,q3,q4,n1,m1,hf]
    refine hN _ (k+1) ?_ (by omega) (by omega)
    rw[hm,hrs]
    apply Le.of<;>simp[zR,qI,z6,KJ]<;>try omega
  ·have hkn3:k=w.acts.length:=by omega
   subst hkn3
   have hlt':¬(w.acts.length:Int)<w.acts.length:=by omega
   simp (disch:=omega) [zz,hlt']
   refine hE _ _ (by simp) ?_
   clear hN hE
   have hme:=zpA w w.acts.length
   have hff:F=(WH w).files:=by rw[hF,hWL,zmo];rfl
   simp (disch:=omega) [zz,Tryz.f12,q8.er_cons,hme,hHe]
   refine⟨?_,?_⟩
   ·rw[AV.ers_eq,List.map_map];rfl
   ·rw[hff];exact j6 _
theorem zlS (w:zV) (hc:WkC w):PC Tryz.prog 12 [.av CZ (yV w)] (.tup [(YQ,kB (zi9 w).1),(.int .i64,.i .i64 (zi9 w).2)]):=by
 have h0:=q7.freeze laid (R':=fun r _ =>
  (X0 w=0/\r=.tup [(YQ,.agg [.sl .no (WW w w.acts.length),.sl .no ((WH w).ran.map (.i .i64 ·)),.sl .no [],qL (WH w).files]),(.int .i64,.i .i64 0)])\/
  (X0 w≠0/\r=.tup [(YQ,kB ⟨[],[],[],[]⟩),(.int .i64,.i .i64 (X0 w))])) (zix w hc) (by
  rintro r H' (⟨h,M,rest,rfl,rfl⟩|⟨h,rfl⟩) _
  ·refine .inl ⟨M,_,_,_,rest,List.Perm.refl _,.inl ⟨h,?_⟩⟩
   simp only[zaK,List.map_cons,List.map_nil,fzA,CI,qL]
   rw[if_pos ⟨trivial,trivial,by omega,by omega⟩,List.drop_zero,List.take_of_length_le (by rw[zbF];exact Nat.le_refl _)]
  ·exact .inr (.inr ⟨h,rfl⟩))
 refine q7.sub (q7.erR h0) ?_
 rintro r H' ⟨r0,⟨h,rfl⟩|⟨h,rfl⟩,rfl⟩ _
 ·refine⟨[],HSub.of_sub (List.nil_sublist _),?_,rfl⟩
  have e1:=j6 (WH w).files
  unfold zi9
  rw[if_neg (by simp[h])]
  simp only[TV.er,List.map_cons,List.map_nil,AV.er,AV.ers,e1,ziR]
  simp[kB,yA,AV.ers_eq,Function.comp_def,AV.er,WH]
 ·refine⟨[],HSub.of_sub (List.nil_sublist _),?_,rfl⟩
  unfold zi9
  rw[if_pos h]
  rfl
end
end Go.Proofs.YtdkieabmeiojjaaGreatDoor
