/- A row of texts is copied, to be sorted. No condition. -/
import Derived.Test.YtdkieabmeiojjaaGreatDoorP13ToSG0
set_option linter.unusedSimpArgs false
set_option linter.unusedVariables false
set_option linter.unusedSectionVars false
set_option maxHeartbeats 64000000
set_option maxRecDepth 100000
namespace Go.Proofs.YtdkieabmeiojjaaGreatDoor
open Go Go.Ab
open Classical
section
variable [Sel] [SelPow] [SelMax]
abbrev zql:Cfg:=⟨fun _=>false,fun n=>n==5⟩
theorem zhv (l:List Txt) (hl:l.length<=1000000):q7 Tryz.prog 32 [.av (.slice 9) (.sl .no (strs l))] [] fun r H'=>∃v,r=.av (.slice 9) v/\J1 l v H':=by
 refine q7.sub (R:=fun r H'=>∃v H2,HSub H2 H'/\r=.av (.slice 9) v/\J1 l v H2) ?_ fun r H' ⟨v,H2,h1,h2,h3⟩ _=>⟨H2,h1,v,h2,h3⟩
 have hse:AV.ers (strs l)=strs l:=by simp[strs,AV.ers_eq,Function.comp_def,AV.er]
 have hsl:=jS l
 refine zov Tryz.func32 zql fun imm0 w0=>?_
 simp (disch:=omega) [zz]
 refine⟨fun h=>?_,fun b=>⟨⟨by omega,by omega⟩,fun h0=>?_,fun h0 b' cap' h1 h2=>?_⟩⟩
 ·have:l=[]:=by simpa[strs]using h
  subst this
  simp (disch:=omega) [zz,Tryz.f32]
  exact⟨_,[],HSub.refl _,rfl,.inl ⟨rfl,rfl,rfl⟩⟩
 ·have:l=[]:=by simpa[strs]using h0
  subst this
  simp (disch:=omega) [zz,Tryz.f32]
  exact⟨_,_,HSub.refl _,rfl,.inr ⟨b,0,[],JK.nil,rfl,rfl,rfl⟩⟩
 ·simp (disch:=omega) [zz,Tryz.f32]
  have hz:JK (strs l++List.replicate (cap'-l.length) (AV.s [])):=JK.app (JK.strs l) (JK.rep rfl _)
  refine⟨_,[(b',.var (.arr cap' 9) (.agg (strs l++List.replicate (cap'-l.length) (AV.s []))))],HSub.of_sub ?_,rfl,.inr ⟨b',cap',_,JK.rep rfl _,rfl,by simp;omega,rfl⟩⟩
  rw[show AV.erks (strs l++List.replicate (cap'-l.length) (AV.s []))=_ from hz]
  exact(List.nil_sublist _).cons_cons _
theorem za8 {P:Program} {imm:Nat->Nat} {w:World}:∀ {xs:List (TyD × AV)} {vs:List Value},VVs P (g0 imm) w xs vs->VVs P (g0 imm) w (xs.map fun p=>(p.1,p.2.er)) vs
 | [],[],_=>trivial
 | (_,x)::_,_::_,h=>⟨⟨h.1.1,x9 x _ _ h.1.2⟩,za8 h.2⟩
 | [],_::_,h=>h.elim
 | _::_,[],h=>h.elim
theorem zpk {P:Program} {imm:Nat->Nat} {w:World} {r:TV} {v:Value} (h:AR P (g0 imm) w r v):AR P (g0 imm) w r.er v:=by
 cases r with
 | av d x=>exact⟨h.1,x9 x _ _ h.2⟩
 | tup l=>obtain⟨us,h1,h2⟩:=h;exact⟨us,h1,za8 h2⟩
 | _=>exact h
theorem q7.erR {P:Program} {f:FuncId} {args:List TV} {H:q8} {R:TV->q8->Prop} (h:q7 P f args H R):q7 P f args H fun r H'=>∃r0,R r0 H'/\r=r0.er:=by
 intro imm w vs h1 h2
 refine(h imm w vs h1 h2).mono ?_
 rintro e' w' ⟨v,r,imm',H',a,hR,hv,hrep,st⟩
 exact⟨v,r.er,imm',H',a,⟨r,hR,rfl⟩,zpk hv,hrep,st⟩
theorem zbS (p:Txt):∀l:List Txt,p∈jJ l<->p∈l
 | []=>by simp[jJ]
 | [x]=>by simp[jJ]
 | x::y::r=>by
  have ih:=zbS p (y::r)
  unfold jJ
  split
  ·rename_i h
   rw[ih,h];simp
  ·rw[List.mem_cons,ih,List.mem_cons (b:=x)]
theorem zif (p:Txt) (l:List Txt):p∈k7 l<->p∈l:=(ZO l).mem_iff
def zbZ (w:zV) (l:List Txt) (j:Nat):Prop:=∃p∈l,∃m,wJ w.acts p=some m/\(j=m\/Relation.TransGen (KC (qW w)) m j)
def yP (w:zV) (j:Nat):Prop:=zbZ w w.wants j
noncomputable def zdo (w:zV) (p:Txt):Option jK:=if (JD (qW w) [] p).2=1/\(JD (qW w) [] p).1.is=true then some ⟨p,(JD (qW w) [] p).1.data⟩ else none
noncomputable def cR (w:zV) (l:List Txt):List jK:=l.filterMap (zdo w)
theorem zgn (w:zV) (l:List Txt) (p:Txt):cR w (l++[p])=cR w l++(zdo w p).toList:=by
 grind [cR]
theorem ziH (w:zV) (l:List Txt):(cR w l).length<=l.length:=List.length_filterMap_le _ _
noncomputable def Z5 (w:zV):List Txt:=jJ (k7 w.wants)
theorem cK (w:zV) (p:Txt):p∈Z5 w<->p∈w.wants:=by simp[Z5,zbS,zif]
theorem zfX (w:zV):(Z5 w).length<=w.wants.length:=by
 grind [Z5,GI,Q9]
def zqc:wZ:=⟨0,0,[],[]⟩
noncomputable def zdh (w:zV):List wZ:=(List.range w.acts.length).map fun i=>if yP w i then kS (qW w) i else zqc
noncomputable def PT (w:zV) (k:Nat):List Int:=((List.range k).filter fun i=>decide (yP w i)).map fun i:Nat=>(i:Int)
theorem zhS (w:zV) (k:Nat):PT w (k+1)=PT w k++if yP w k then [(k:Int)] else []:=by
 grind [PT,List.range_succ]
theorem zlk (w:zV) (k:Nat):(PT w k).length<=k:=by
 grind [PT]
noncomputable def WH (w:zV):V9:=⟨zdh w,PT w w.acts.length,[],cR w (Z5 w)⟩
noncomputable def zi9 (w:zV):V9 × Int:=if X0 w≠0 then(⟨[],[],[],[]⟩,X0 w) else(WH w,0)
structure BuI (w:zV) (l:List Txt) (x:BdV):Prop where
 ok:KN (qW w) w.acts.length [] x
 mak:∀p∈l,∀j,wJ w.acts p=some j->j∈x.ov.map Prod.fst
 ask:∀j∈x.ov.map Prod.fst,zbZ w l j
theorem BuI.start (w:zV):BuI w [] ⟨[],[]⟩:=⟨.none _ _,fun p h=>by simp at h,fun j h=>by simp at h⟩
theorem BuI.step {w:zV} {l:List Txt} {x x':BdV} {p:Txt} (h:BuI w l x) (h1:KN (qW w) w.acts.length [] x') (h2:∀j,j∈x.ov.map Prod.fst->j∈x'.ov.map Prod.fst)
  (h3:∀j,wJ w.acts p=some j->j∈([]:List Nat)\/j∈x'.ov.map Prod.fst) (h4:ziO (qW w) x x' p):BuI w (l++[p]) x' where
 ok:=h1
 mak:=fun q hq j hj=>by
  rcases List.mem_append.1 hq with hq|hq
  ·exact h2 j (h.mak q hq j hj)
  simp_all
 ask:=fun j hj=>by
  rcases h4 j hj with h5|⟨m,h5,h6⟩
  ·obtain⟨q,hq,m,h6⟩:=h.ask j h5
   exact⟨q,List.mem_append_left _ hq,m,h6⟩
  ·exact⟨p,List.mem_append_right _ (List.mem_singleton.2 rfl),m,h5,h6⟩
theorem BuI.trans {w:zV} {l:List Txt} {x:BdV} (h:BuI w l x) {m j:Nat} (hj:Relation.TransGen (KC (qW w)) m j) (hm:m∈x.ov.map Prod.fst):j∈x.ov.map Prod.fst:=by
 have step:∀ {a b:Nat},a∈x.ov.map Prod.fst->KC (qW w) a b->b∈x.ov.map Prod.fst:=fun {a b} ha hb=>by
  obtain⟨p,hp,rfl⟩:=List.mem_map.1 ha
  simpa using h.ok.cl p hp b hb
 induction hj with
 | single h1=>grind
 | tail _ h1 ih=>grind
theorem BuI.iff {w:zV} {l:List Txt} {x:BdV} (h:BuI w l x) (j:Nat):j∈x.ov.map Prod.fst<->zbZ w l j:=by
 refine⟨h.ask j,?_⟩
 rintro⟨p,hp,m,hm,h1⟩
 have h2:=h.mak p hp m hm
 rcases h1 with rfl|h1
 ·exact h2
 ·exact h.trans h1 h2
theorem BuI.all {w:zV} {x:BdV} (h:BuI w (Z5 w) x) (j:Nat):j∈x.ov.map Prod.fst<->yP w j:=by
 rw[h.iff]
 simp[yP,zbZ,cK]
theorem BuI.find {w:zV} {x:BdV} (h:BuI w (Z5 w) x) (j:Nat):wQ (.i .i64 (j:Int)) (ovE x.ov)=if yP w j then some (z7 (kS (qW w) j)) else none:=by
 rw[dP]
 cases hf:x.ov.find? fun p=>decide (p.1=j)with
 | none =>
  have:¬yP w j:=fun ha=>by
   obtain⟨p,hp,he⟩:=List.mem_map.1 ((h.all j).2 ha)
   grind
  simp_all
 | some q =>
  have h1:q.1=j:=by grind
  have h2:=h.ok.fin q (List.mem_of_find?_eq_some hf)
  have:yP w j:=(h.all j).1 (List.mem_map.2 ⟨q,List.mem_of_find?_eq_some hf,h1⟩)
  simp_all
noncomputable def WW (w:zV) (k:Nat):List AV:=(List.range w.acts.length).map fun i=>if i<k/\yP w i then z7 (kS (qW w) i) else zkw
theorem zbF (w:zV) (k:Nat):(WW w k).length=w.acts.length:=by simp[WW]
theorem zfj (w:zV):List.replicate w.acts.length zkw=WW w 0:=by
 unfold WW
 apply List.ext_getElem
 ·simp
 ·intro i h1 h2;simp
theorem zf6 (w:zV) (k:Nat) (hk:k<w.acts.length):WW w (k+1)=if yP w k then(WW w k).set k (z7 (kS (qW w) k)) else WW w k:=by
 unfold WW
 split
 ·rename_i h
  apply List.ext_getElem
  ·simp
  ·intro i h1 h2
   rw[List.getElem_set]
   simp only[List.getElem_map,List.getElem_range]
   by_cases hik:k=i
   ·subst hik;rw[if_pos ⟨by omega,h⟩,if_pos rfl]
   ·rw[if_neg hik]
    have:(i<k+1/\yP w i)<->(i<k/\yP w i):=by constructor<;>rintro⟨a,b⟩<;>exact⟨by omega,b⟩
    simp only[this]
 ·rename_i h
  apply List.map_congr_left
  intro i hi
  have:(i<k+1/\yP w i)<->(i<k/\yP w i):=by
   constructor
   ·rintro⟨a,b⟩
    refine⟨?_,b⟩
    rcases Nat.lt_or_ge i k with h3|h3
    ·exact h3
    ·have:i=k:=by omega
     subst this;exact absurd b h
   ·rintro⟨a,b⟩;exact⟨by omega,b⟩
  simp only[this]
theorem ziR (w:zV):AV.ers (WW w w.acts.length)=(zdh w).map z7:=by
 unfold WW zdh
 rw[AV.ers_eq,List.map_map,List.map_map]
 apply List.map_congr_left
 intro i hi
 have hi:=List.mem_range.1 hi
 simp only[Function.comp_def]
 by_cases h:yP w i
 ·rw[if_pos ⟨hi,h⟩,if_pos h];exact Q5 _
 ·rw[if_neg (fun g=>h g.2),if_neg h];rfl
noncomputable def mO (w:zV) (k:Nat):HObj:=.var (.arr w.acts.length 31) (.agg (WW w k))
theorem zpA (w:zV) (k:Nat):(mO w k).er=mO w k:=by
 unfold mO WW
 rw[HObj.er_var]
 simp only[AV.erk,AV.erks_eq,List.map_map]
 congr 2
 apply List.map_congr_left
 intro i _
 simp only[Function.comp_def]
 split
 ·exact zeZ _
 ·rfl
abbrev zom:Cfg:=⟨fun _=>false,fun _=>false⟩
theorem zjo (ts:List Txt) (v:AV) (H:q8) (hrow:J1 ts v H) (hn:ts.length<=1000000000) :
  q7 Tryz.prog 34 [.av (.slice 9) v] H fun r H'=>r=.av (.slice 9) (.sl .no (strs (jJ ts)))/\H'=[]:=by
 refine(cA ts v H hrow hn).freeze laid ?_
 rintro r H' ⟨v',rfl,⟨h1,rfl,rfl⟩|⟨b,cap,j,hj,rfl,hc,rfl⟩⟩ _
 ·exact .inr ⟨by rw[h1];rfl,rfl⟩
 ·refine .inl ⟨b,cap,9,_,[],List.Perm.refl _,?_,rfl⟩
  simp only[zaK,fzA]
  rw[if_pos ⟨trivial,trivial,by omega,by omega⟩,List.drop_zero,List.take_left' (by simp[strs])]
noncomputable def flK (w:zV) (k:Nat):List jK:=cR w ((Z5 w).take k)
theorem zmo (w:zV):flK w (Z5 w).length=cR w (Z5 w):=by unfold flK;rw[List.take_length]
theorem zjL (w:zV) (k:Nat) (h:k<(Z5 w).length):flK w (k+1)=flK w k++(zdo w (Z5 w)[k]).toList:=by
 unfold flK
 rw[List.take_succ_eq_append_getElem h,zgn]
theorem zmm (w:zV) (k:Nat):(flK w k).length<=(Z5 w).length:=Nat.le_trans (ziH w _) (by rw[List.length_take];omega)
theorem zix (w:zV) (hc:WkC w):q7 Tryz.prog 12 [.av CZ (yV w)] [] fun r H' =>
  (X0 w=0/\∃M rest,r=.tup [(YQ,.agg [.msl M 31 0 w.acts.length w.acts.length,.sl .no ((WH w).ran.map (.i .i64 ·)),.sl .no [],qL (WH w).files]),(.int .i64,.i .i64 0)]/\H'=(M,mO w w.acts.length)::rest)\/
  (X0 w≠0/\r=.tup [(YQ,kB ⟨[],[],[],[]⟩),(.int .i64,.i .i64 (X0 w))]):=by
 have hch:=zbJ w hc
 have hew:=cS w
 have hbg:=zbT w
 obtain⟨W,hW⟩:∃W,W=yV w:=⟨_,rfl⟩
 have hWE:W=.agg [qL w.files,.sl .no (w.acts.map wW),.sl .no (strs w.wants),.b w.keep]:=hW
 rw[<-hW]at hch hew hbg
 rw[<-hW]
 refine zov Tryz.func12 zom fun imm0 w0=>?_
 simp (disch:=omega) [zz]
 refine qO hch rfl rfl (by simp) (by simp[qR,TV.er,hew]) ?_
 by_cases h1:X0 w=0
 rotate_left
 ·simp (disch:=omega) [zz,h1,Tryz.f12,kB,qL,yA]
 have hw:=hc.ok h1
 have hwn:w.wants.length<=1000:=by
  unfold X0 at h1
  split at h1
  ·exact absurd h1 (by assumption)
  ·split at h1
   ·exact absurd h1 (by assumption)
   ·split at h1
    ·omega
    ·omega
 have han:=hw.n
 simp (disch:=omega) [zz,h1]
 refine qD (R:=fun r H'=>∃B O Y T,r=.av .ptr (.ptr B BdT [])/\H'=bdH B O Y T w [] ⟨[],[]⟩) [] [] (by simp) rfl (by simp[qE]) (by simp) ?_ ?_
 ·simpa[TV.er,hew,q8.er_nil]using hbg
 rintro r H ⟨B,O,Y,T,rfl,rfl⟩ hnd
 refine⟨bdH B O Y T w [] ⟨[],[]⟩,by simpa using HSub.refl _,?_⟩
 have hne:=zha (by simpa using hnd)
 have n1:=hne.bo
 have m1:¬B=O:=fun e=>n1 e.symm
 obtain⟨WL,hWL⟩:∃WL,WL=Z5 w:=⟨_,rfl⟩
 have hwl:=zfX w
 rw[<-hWL]at hwl
 simp (disch:=omega) [zz,hWE]
 refine⟨by omega,by omega,fun M hM=>?_⟩
 have hMk:¬M=B/\¬M=O/\¬M=Y/\¬M=T:=by
  simpa[bdH,q8.keys,not_or]using hM
 obtain⟨q1,q2,q3,q4⟩:=hMk
 obtain⟨rest,hrest⟩:∃rest,rest=(M,mO w 0)::bdH B O Y T w [] ⟨[],[]⟩:=⟨_,rfl⟩
 have hcl:=zhv w.wants (by omega)
 have hse:AV.ers (strs w.wants)=strs w.wants:=by simp[strs,AV.ers_eq,Function.comp_def,AV.er]
 refine qD (R:=fun r H'=>∃v,r=.av (.slice 9) v/\J1 w.wants v H') [] rest (by rw[hrest];unfold mO;rw[<-zfj];exact List.Perm.refl _) rfl (by simp[qE]) (by simp) ?_ ?_
 ·simpa[TV.er,AV.er,hse,q8.er_nil]using hcl
 rintro r H1 ⟨v1,rfl,hr1⟩ _
 refine⟨H1++rest,HSub.refl _,?_⟩
 obtain⟨z1,z2⟩:=hr1.er
 simp (disch:=omega) [zz]
 refine qD (R:=fun r H'=>r=.tup []/\J1 (k7 w.wants) v1 H') H1 rest (List.Perm.refl _) rfl (by simp[qE]) (by simp) ?_ ?_
 ·have:=CR w.wants v1 H1 hr1 (by omega)
  simpa[TV.er,z1,z2]using this
 rintro r H2 ⟨rfl,hr2⟩ _
 refine⟨H2++rest,HSub.refl _,?_⟩
 obtain⟨z3,z4⟩:=hr2.er
 simp (disch:=omega) [zz]
 refine qD (R:=fun r H'=>r=.av (.slice 9) (.sl .no (strs WL))/\H'=[]) H2 rest (List.Perm.refl _) rfl (by simp[qE]) (by simp) ?_ ?_
 ·have:=zjo (k7 w.wants) v1 H2 hr2 (by rw[Q9];omega)
  rw[hWL]
  simpa[TV.er,z3,z4,Z5]using this
 rintro r H3 ⟨rfl,rfl⟩ _
 refine⟨rest,by simpa using HSub.refl _,?_⟩
 rw[hrest]
 have hsl:=jS WL
 simp (disch:=omega) [zz,hsl]
 refine AT.loop' (α:=Nat × BdV) (fun q=>St.of [(1,.loc 1 []),(2,.loc 2 []),(5,.av .ptr (.ptr B BdT [])),(6,.loc 6 []),(34,.av (.slice 9) (.sl .no (strs WL))),(35,.av (.int .i64) (.i .i64 WL.length)),(36,.av (.int .i64) (.i .i64 q.1))]
  [(1,(CZ,W)),(2,(YQ,.agg [.sl .full [],.sl .full [],.sl .full [],.sl .full []])),(6,(YQ,.agg [.msl M 31 0 w.acts.length w.acts.length,.sl .full [],.sl .full [],.sl (tkG 59 (flK w q.1).length) ((flK w q.1).map zK)]))]
  (fun j=>if j=59 then(flK w q.1).length else 0) ((M,mO w 0)::bdH B O Y T w [] q.2)) (fun q=>q.1<=WL.length/\BuI w (WL.take q.1) q.2) (fun q=>WL.length-q.1) (0,⟨[],[]⟩) ?_ ⟨by omega,.start w⟩ ?_
 ·have h0:flK w 0=[]:=rfl
  apply Le.of<;>simp[zR,qI,z6,tkG,h0,hWE]<;>try omega
 rintro⟨k,x⟩ ⟨hkn,hbu⟩ KL hN hE
 simp only at hkn hbu hN
 refine zrd zom ?_
 by_cases hlt:k<WL.length
 ·have hlt':(k:Int)<WL.length:=by omega
  have hg:=xM WL k hlt
  have hfs:=zjL w k (by rw[<-hWL];exact hlt)
  have htk:WL.take (k+1)=WL.take k++[WL[k]]:=List.take_succ_eq_append_getElem hlt
  obtain⟨p,hp⟩:∃p,p=WL[k]:=⟨_,rfl⟩
  have hpw:(Z5 w)[k]'(by rw[<-hWL];exact hlt)=p:=by rw[hp];simp only[hWL]
  rw[hpw]at hfs
  have hg2:(strs WL)[k]'(by rw[hsl];exact hlt)=.s p:=by rw[hp];simp[strs]
  rw[<-hp]at hg htk
  have hcome:=ze5 B O Y T w hw [] p x hbu.ok fun j hm _=>zeD B O Y T w hw j x hbu.ok (by obtain⟨hj,_⟩:=zaj hm;exact hj)
  have hHe:=YD B O Y T w [] x
  simp (disch:=omega) [zz,hlt',hg,hg2,hsl]
  refine qD (R:=ziV B O Y T w [] p x) (bdH B O Y T w [] x) [(M,mO w 0)] (List.perm_append_comm (l₁:=[_])) rfl (by simp[qE]) (by simp) ?_ ?_
  ·rw[hHe];simpa[TV.er,AV.er]using hcome
  rintro r H' ⟨x',rfl,g1,g2,g3,g4,rfl⟩ _
  refine⟨(M,mO w 0)::bdH B O Y T w [] x',HSub.of_perm (List.perm_append_comm (l₂:=[_])),?_⟩
  have hbu':BuI w (WL.take (k+1)) x':=by rw[htk];exact hbu.step g1 g2 g3 g4
  unfold zdo at hfs
  generalize JD (qW w) [] p=kc at hfs
  obtain⟨kn,c⟩:=kc
  simp only at hfs
  have hwl3:=zmm w k
  rw[<-hWL]at hwl3
  have hfin:∀e:List jK,flK w (k+1)=flK w k++e->(flK w (k+1)).length=(flK w k).length+e.length:=fun e h=>by rw[h,List.length_append]
  by_cases hyes:c=1/\kn.is=true
  ·rw[if_pos hyes]at hfs
   simp only[Option.toList_some]at hfs
   have hfl:=hfin _ hfs
   simp only[List.length_singleton]at hfl
   obtain⟨y1,y2⟩:=hyes
   simp (disch:=omega) [zz,jD,y1,y2]
   refine xQ (by simp) (by simp;omega) (by simp;omega) (by simp) (by simp) ?_
   simp (disch:=omega) [zz]
   refine hN _ (k+1,x') ?_ ⟨by simp only;omega,hbu'⟩ (by simp only;omega)
   rw[hfl,hfs]
   apply Le.of<;>simp[zR,qI,z6,zK]<;>try omega
   all_goals (intro j;by_cases hj:j=59<;>simp[hj])
  ·rw[if_neg hyes]at hfs
   simp only[Option.toList_none,List.append_nil]at hfs
   by_cases y1:c=1
   ·have y2:kn.is=false:=by simpa[y1]using hyes
    simp (disch:=omega) [zz,jD,y1,y2]
    refine hN _ (k+1,x') ?_ ⟨by simp only;omega,hbu'⟩ (by simp only;omega)
    rw[hfs]
    apply Le.of<;>simp[zR,qI,z6]<;>try omega
   ·simp (disch:=omega) [zz,jD,y1]
    refine hN _ (k+1,x') ?_ ⟨by simp only;omega,hbu'⟩ (by simp only;omega)
    rw[hfs]
    apply Le.of<;>simp[zR,qI,z6]<;>try omega
 ·have hkn2:k=WL.length:=by omega
  subst hkn2
  have hlt':¬(WL.length:Int)<WL.length:=by omega
  rw[List.take_length]at hbu
  rw[hWL]at hbu
  simp (disch:=omega) [zz,hlt',hsl]
  refine hE _ _ (by simp) ?_
  clear hN hE
  have hHe:=YD B O Y T w [] x
  have hfnd:=fun j=>BuI.find hbu j
  obtain⟨F,hF⟩:∃F,F=flK w WL.length:=⟨_,rfl⟩
  rw[<-hF]
  have hr0:PT w 0=[]:=rfl
  simp (disch:=omega) [zz,hWE]
  refine AT.loop' (α:=Nat) (fun k=>St.of [(2,.loc 2 []),(5,.av .ptr (.ptr B BdT [])),(6,.loc 6 []),(64,.av (.int .i64) (.i .i64 w.acts.length)),(65,.av (.int .i64) (.i .i64 k))]
   [(2,(YQ,.agg [.sl .full [],.sl .full [],.sl .full [],.sl .full []])),(6,(YQ,.agg [.msl M 31 0 w.acts.length w.acts.length,.sl (tkG 87 (PT w k).length) ((PT w k).map (.i .i64 ·)),.sl .full [],.sl (tkG 59 F.length) (F.map zK)]))]
   (fun j=>if j=87 then(PT w k).length else if j=59 then F.length else 0) ((M,mO w k)::bdH B O Y T w [] x)) (fun k=>k<=w.acts.length) (fun k=>w.acts.length-k) 0 ?_ (by omega) ?_
  ·apply Le.of<;>simp[zR,qI,z6,tkG,hr0]<;>try omega
   intro j;by_cases h8:j=87<;>by_cases h5:j=59<;>simp[h8,h5]<;>omega
  rintro k hk KL hN hE
  refine zrd zom ?_
  by_cases hlt:k<w.acts.length
  ·have hlt':(k:Int)<w.acts.length:=by omega
   have hf:=hfnd k
   have hos:=zf6 w k hlt
   have hrs:=zhS w k
   have hrl:=zlk w k
   have hol:=zbF w k
   by_cases ha:yP w k
   ·rw[if_pos ha]at hf hos hrs
    have hrl2:(PT w (k+1)).length=(PT w k).length+1:=by rw[hrs];simp
    have hm:(M,mO w (k+1))=(M,HObj.var (.arr w.acts.length 31) (.agg ((WW w k).set k (z7 (kS (qW w) k))))):=by unfold mO;rw[hos]
    simp (disch:=omega) [zz,hlt',KJ,q1,q2,q3,q4,n1,m1,hf,mO,hol,hlt]
    refine xQ (by simp) (by simp;omega) (by simp;omega) (by simp) (by simp) ?_
    simp (disch:=omega) [zz]
    refine hN _ (k+1) ?_ (by omega) (by omega)
    rw[hm,hrl2,hrs]
    apply Le.of<;>simp[zR,qI,z6,KJ]<;>try omega
    all_goals (intro j;by_cases h8:j=87<;>by_cases h5:j=59<;>simp[h8,h5])
   ·rw[if_neg ha]at hf hos hrs
    have hm:(M,mO w (k+1))=(M,mO w k):=by unfold mO;rw[hos]
    rw[List.append_nil]at hrs
    simp (disch:=omega) [zz,hlt',KJ,q1,q2,q3,q4,n1,m1,hf]
    refine hN _ (k+1) ?_ (by omega) (by omega)
    rw[hm,hrs]
    apply Le.of<;>simp[zR,qI,z6,KJ]<;>try omega
  ·have hkn3:k=w.acts.length:=by omega
   subst hkn3
   have hlt':¬(w.acts.length:Int)<w.acts.length:=by omega
   simp (disch:=omega) [zz,hlt']
   refine hE _ _ (by simp) ?_
   clear hN hE
   have hme:=zpA w w.acts.length
   have hff:F=(WH w).files:=by rw[hF,hWL,zmo];rfl
   simp (disch:=omega) [zz,Tryz.f12,q8.er_cons,hme,hHe]
   refine⟨?_,?_⟩
   ·rw[AV.ers_eq,List.map_map];rfl
   ·rw[hff];exact j6 _
theorem zlS (w:zV) (hc:WkC w):PC Tryz.prog 12 [.av CZ (yV w)] (.tup [(YQ,kB (zi9 w).1),(.int .i64,.i .i64 (zi9 w).2)]):=by
 have h0:=q7.freeze laid (R':=fun r _ =>
  (X0 w=0/\r=.tup [(YQ,.agg [.sl .no (WW w w.acts.length),.sl .no ((WH w).ran.map (.i .i64 ·)),.sl .no [],qL (WH w).files]),(.int .i64,.i .i64 0)])\/
  (X0 w≠0/\r=.tup [(YQ,kB ⟨[],[],[],[]⟩),(.int .i64,.i .i64 (X0 w))])) (zix w hc) (by
  rintro r H' (⟨h,M,rest,rfl,rfl⟩|⟨h,rfl⟩) _
  ·refine .inl ⟨M,_,_,_,rest,List.Perm.refl _,.inl ⟨h,?_⟩⟩
   simp only[zaK,List.map_cons,List.map_nil,fzA,CI,qL]
   rw[if_pos ⟨trivial,trivial,by omega,by omega⟩,List.drop_zero,List.take_of_length_le (by rw[zbF];exact Nat.le_refl _)]
  ·exact .inr (.inr ⟨h,rfl⟩))
 refine q7.sub (q7.erR h0) ?_
 rintro r H' ⟨r0,⟨h,rfl⟩|⟨h,rfl⟩,rfl⟩ _
 ·refine⟨[],HSub.of_sub (List.nil_sublist _),?_,rfl⟩
  have e1:=j6 (WH w).files
  unfold zi9
  rw[if_neg (by simp[h])]
  simp only[TV.er,List.map_cons,List.map_nil,AV.er,AV.ers,e1,ziR]
  simp[kB,yA,AV.ers_eq,Function.comp_def,AV.er,WH]
 ·refine⟨[],HSub.of_sub (List.nil_sublist _),?_,rfl⟩
  unfold zi9
  rw[if_pos h]
  rfl
end
section
variable [Sel]
def wH (n:Nat):AV:=.i .i64 (n:Int)
def jX (l:List Nat):AV:=.sl .no (l.map wH)
theorem zdf (l:List Nat):(jX l).er=jX l:=by simp[jX,AV.er,AV.ers_eq,Function.comp_def,wH]
theorem GN (ts:List Nat) (x:Nat) (hn:ts.length<=1000000000):PC Tryz.prog 38 [.av (.slice 3) (jX ts),.av (.int .i64) (wH x)] (.av (.int .i64) (.i .i64 (QJ (fun y=>decide (y=x)) ts))):=by
 refine zow Tryz.func38 cf0 fun imm0 w0=>?_
 simp (disch:=omega) [zz,jX,wH]
 refine AT.loop' (α:=Nat) (fun k=>St.of [(0,.av (.slice 3) (jX ts)),(1,.av (.int .i64) (wH x)),(7,.av (.int .i64) (.i .i64 ts.length)),(8,.av (.int .i64) (.i .i64 k))] [] (fun _=>0) [])
  (fun k=>k<=ts.length/\∀y∈ts.take k,(fun y=>decide (y=x)) y=false) (fun k=>ts.length-k) 0 ?_ ?_ ?_
 ·apply Le.of<;>simp[zR,qI,z6,jX,wH]<;>try omega
 ·simp
 rintro k ⟨hk',hpk⟩ KL hN hE
 refine zrd cf0 ?_
 by_cases hlt:k<ts.length
 ·have hlt':(k:Int)<ts.length:=by omega
  have hg:=kG wH ts k hlt
  by_cases hp:ts[k]=x
  ·have hi:=JR (p:=fun y=>decide (y=x)) hlt hpk (by simpa using hp)
   generalize ts[k]=y at *
   subst hp
   simp (disch:=omega) [zz,hlt',hg,jX,wH]
   refine hE _ _ (by simp) ?_
   simp (disch:=omega) [zz,Tryz.f38,hi]
  ·have hp':¬x=ts[k]:=fun e=>hp e.symm
   have hp2:¬((x:Int)=(ts[k]:Nat)):=fun e=>hp' (by omega)
   simp (disch:=omega) [zz,hlt',hg,hp',hp2,jX,wH]
   refine hN _ (k+1) ?_ ⟨by omega,by rw[yC hlt];exact⟨hpk,by simpa using hp⟩⟩ (by omega)
   apply Le.of<;>simp[zR,qI,z6,jX,wH]<;>try omega
 ·have hlt':¬(k:Int)<ts.length:=by omega
  simp (disch:=omega) [zz,hlt',jX,wH]
  refine hE _ _ (by simp) ?_
  rw[List.take_of_length_le (by omega)]at hpk
  simp (disch:=omega) [zz,Tryz.f38,ZP (p:=fun y=>decide (y=x)) hpk]
theorem zcN (ts:List Nat) (x:Nat) (hn:ts.length<=1000000000):PC Tryz.prog 36 [.av (.slice 3) (jX ts),.av (.int .i64) (wH x)] (.av .bool (.b (decide (x∈ts)))):=by
 have hee:=zdf ts
 have hex:(wH x).er=wH x:=by simp[wH,AV.er]
 refine zow Tryz.func36 cf0 fun imm0 w0=>?_
 simp (disch:=omega) [zz]
 refine qO (GN ts x hn) rfl rfl (by simp) (by simp[qR,TV.er,AV.er,hee,hex]) ?_
 rcases ZS (fun y=>decide (y=x)) ts with⟨he,hall⟩|⟨i,hi,he,hs,_⟩
 ·have:¬x∈ts:=fun h=>by have:=hall x h;simp at this
  simp (disch:=omega) [zz,he,this,Tryz.f36]
 ·have h1:x∈ts:=by simp at hs;rw[<-hs];exact List.getElem_mem hi
  have h2:(0:Int)<=i:=by omega
  simp (disch:=omega) [zz,he,h1,h2,Tryz.f36]
def YM (x:Nat) (l:List Nat):Nat:=l.foldl Nat.min x
theorem zm9 (x:Nat) (l:List Nat) (hn:l.length<=1000000000):PC Tryz.prog 39 [.av (.slice 3) (jX (x::l))] (.av (.int .i64) (wH (YM x l))):=by
 obtain⟨ts,hts⟩:∃ts,ts=x::l:=⟨_,rfl⟩
 have hlen:ts.length=l.length+1:=by rw[hts];rfl
 have hg0:(ts.map wH)[0]?=some (wH x):=by rw[hts];rfl
 rw[<-hts]
 have h1:¬(ts.length:Int)<1:=by omega
 have h0:0<ts.length:=by omega
 refine zow Tryz.func39 cf0 fun imm0 w0=>?_
 simp (disch:=omega) [zz,jX,h1,h0,hg0]
 refine AT.loop' (α:=Nat) (fun k=>St.of [(0,.av (.slice 3) (jX ts)),(3,.av (.int .i64) (wH (YM x (l.take k)))),(4,.av (.int .i64) (.i .i64 ((k:Int)+1)))] [] (fun _=>0) [])
  (fun k=>k<=l.length) (fun k=>l.length-k) 0 ?_ ?_ ?_
 ·apply Le.of<;>simp[zR,qI,z6,jX,wH,YM]<;>try omega
 ·omega
 rintro k hk KL hN hE
 refine zrd cf0 ?_
 by_cases hlt:k<l.length
 ·have hlt':(k:Int)+1<ts.length:=by omega
  have hg:(ts.map wH)[k+1]?=some (wH l[k]):=by rw[hts];simp[hlt]
  have hk1:((k:Int)+1).toNat=k+1:=by omega
  have hge:(0:Int)<=(k:Int)+1:=by omega
  have hlt2:k+1<ts.length:=by omega
  have hst:YM x (l.take (k+1))=Nat.min (YM x (l.take k)) l[k]:=by
   unfold YM;rw[List.take_succ_eq_append_getElem hlt,List.foldl_append];rfl
  generalize l[k]=y at *
  simp (disch:=omega) [zz,hlt',hg,hk1,hge,hlt2,jX,wH]
  have hmin:(if y<YM x (l.take k) then(y:Int) else(YM x (l.take k):Nat))=((YM x (l.take (k+1)):Nat):Int):=by
   rw[hst]
   have:Nat.min (YM x (l.take k)) y=min (YM x (l.take k)) y:=rfl
   rw[this]
   split<;>omega
  refine hN _ (k+1) ?_ (by omega) (by omega)
  apply Le.of<;>simp[zR,qI,z6,hmin,jX,wH]<;>try omega
 ·have hlt':¬(k:Int)+1<ts.length:=by omega
  simp (disch:=omega) [zz,hlt',jX,wH]
  refine hE _ _ (by simp) ?_
  rw[List.take_of_length_le (by omega)]
  simp (disch:=omega) [zz,Tryz.f39,wH]
def z64:AV:=.i .i64 0
noncomputable def rwI (cap:Nat) (xs:List Nat):HObj:=.var (.arr cap 3) (.agg (xs.map wH++List.replicate (cap-xs.length) z64))
theorem zjH (cap:Nat) (xs:List Nat):(rwI cap xs).er=rwI cap xs:=by
 simp[rwI,HObj.er_var,AV.erk,AV.erks_eq,Function.comp_def,wH,z64]
def GrR (n:Nat) (r:TV) (H':q8):Prop:=∃b cap,n<=cap/\r=.av (.slice 3) (.msl b 3 0 0 cap)/\H'=[(b,rwI cap [])]
theorem zk4 (n:Nat) (h0:0<n) (hn:n<=1000000000):q7 Tryz.prog 60 [.cst (.slice none 0 0),.av (.int .i64) (.i .i64 n)] [] (GrR n):=by
 refine q7.argNil (e:=3) ?_
 have h1:¬(n:Int)<0:=by omega
 have h2:(0:Int)<n:=by omega
 refine zov Tryz.func60 cf0 fun imm0 w0=>?_
 simp (disch:=omega) [zz,h1,h2]
 refine⟨fun _=>⟨h0,⟨by omega,by omega⟩,fun b cap hc=>⟨hc,?_⟩⟩,fun h=>by omega⟩
 simp (disch:=omega) [zz,Tryz.f60]
 have he:=zjH cap []
 exact⟨b,cap,hc,rfl,by simpa[rwI,z64,HObj.er_var,AV.erk]using he⟩
def x8 (ls:List (List Nat)) (k:Nat):List Nat:=(ls.take k).flatten
theorem zld (ls:List (List Nat)):x8 ls ls.length=ls.flatten:=by unfold x8;rw[List.take_length]
theorem zbd (ls:List (List Nat)) (k:Nat) (h:k<ls.length):x8 ls (k+1)=x8 ls k++ls[k]:=by
 unfold x8
 rw[List.take_succ_eq_append_getElem h,List.flatten_append];simp
theorem zgv (ls:List (List Nat)) (k:Nat):(x8 ls k).length<=ls.flatten.length:=by
 unfold x8
 conv=>rhs;rw[<-List.take_append_drop k ls,List.flatten_append,List.length_append]
 omega
theorem zmA {cap:Nat} {xs ys:List Nat} (h:xs.length+ys.length<=cap) :
  (xs.map wH++List.replicate (cap-xs.length) z64).take xs.length++ys.map wH++(xs.map wH++List.replicate (cap-xs.length) z64).drop (xs.length+ys.length)=(xs++ys).map wH++List.replicate (cap-(xs++ys).length) z64:=by
 rw[List.take_left' (by simp),<-List.drop_drop,List.drop_left' (by simp),List.drop_replicate,List.map_append,List.length_append]
 congr 2
 omega
theorem zfP (ls:List (List Nat)) (F:List Nat) (hF:F=ls.flatten) (h0:0<F.length) (hn:F.length<=1000000000) (hk:ls.length<=1000000000) :
  q7 Tryz.prog 40 [.av (.slice 23) (.sl .no (ls.map jX))] [] fun r H'=>∃b cap,F.length<=cap/\r=.av (.slice 3) (.msl b 3 0 F.length cap)/\H'=[(b,rwI cap F)]:=by
 have hF0:=zld ls
 rw[<-hF]at hF0
 have hz0:x8 ls 0=[]:=rfl
 refine zov Tryz.func40 cf0 fun imm0 w0=>?_
 simp (disch:=omega) [zz]
 refine AT.loop' (α:=Nat) (fun k=>St.of [(0,.av (.slice 23) (.sl .no (ls.map jX))),(3,.av (.int .i64) (.i .i64 (x8 ls k).length)),(9,.av (.slice 23) (.sl .no (ls.map jX))),(10,.av (.int .i64) (.i .i64 ls.length)),(11,.av (.int .i64) (.i .i64 k))] [] (fun _=>0) [])
  (fun k=>k<=ls.length) (fun k=>ls.length-k) 0 ?_ ?_ ?_
 ·apply Le.of<;>simp[zR,qI,z6,hz0]<;>try omega
 ·omega
 rintro k hk KL hN hE
 refine zrd cf0 ?_
 by_cases hlt:k<ls.length
 ·have hlt':(k:Int)<ls.length:=by omega
  have hg:=kG jX ls k hlt
  have hs:=congrArg List.length (zbd ls k hlt)
  have hle:=zgv ls (k+1)
  rw[<-hF]at hle
  rw[List.length_append]at hs
  have hng:¬(((x8 ls k).length:Int)+ls[k].length<0):=by omega
  have hs':((x8 ls (k+1)).length:Int)=(x8 ls k).length+ls[k].length:=by omega
  generalize (x8 ls k).length=m at *
  simp (disch:=omega) [zz,hlt',hg,jX,hng]
  refine hN _ (k+1) ?_ (by omega) (by omega)
  apply Le.of<;>simp[zR,qI,z6,hs',jX]<;>try omega
 have hkn:k=ls.length:=by omega
 subst hkn
 have hlt':¬(ls.length:Int)<ls.length:=by omega
 simp (disch:=omega) [zz,hlt']
 refine hE _ _ (by simp) ?_
 rw[hF0]
 clear hN hE
 simp (disch:=omega) [zz]
 refine w8 (R:=GrR F.length) rfl (by simp[qE]) (by simp) ?_ ?_
 ·simpa[TV.er,AV.er,q8.er_nil]using zk4 F.length h0 hn
 rintro r H ⟨b,cap,hcap,rfl,rfl⟩
 simp (disch:=omega) [zz]
 refine AT.loop' (α:=Nat) (fun k=>St.of [(6,.av (.slice 3) (.msl b 3 0 (x8 ls k).length cap)),(25,.av (.slice 23) (.sl .no (ls.map jX))),(26,.av (.int .i64) (.i .i64 ls.length)),(27,.av (.int .i64) (.i .i64 k))] [] (fun _=>0) [(b,rwI cap (x8 ls k))])
  (fun k=>k<=ls.length) (fun k=>ls.length-k) 0 ?_ ?_ ?_
 ·apply Le.of<;>simp[zR,qI,z6,hz0]<;>try omega
 ·omega
 rintro k hk KL hN hE
 refine zrd cf0 ?_
 by_cases hlt:k<ls.length
 ·have hlt':(k:Int)<ls.length:=by omega
  have hg:=kG jX ls k hlt
  have hst:=zbd ls k hlt
  have hs:=congrArg List.length hst
  have hle:=zgv ls (k+1)
  rw[<-hF]at hle
  rw[List.length_append]at hs
  have hput:=zmA (cap:=cap) (xs:=x8 ls k) (ys:=ls[k]) (by omega)
  rw[<-hst]at hput
  have hng:¬cap<(x8 ls k).length+ls[k].length:=by omega
  have hng2:(x8 ls k).length+ls[k].length<=cap:=by omega
  simp (disch:=omega) [zz,hlt',hg,jX,rwI,hng,hng2]
  refine⟨by omega,⟨by omega,by omega⟩,?_⟩
  have hs':(x8 ls (k+1)).length=(x8 ls k).length+ls[k].length:=hs
  refine hN _ (k+1) ?_ (by omega) (by omega)
  apply Le.of<;>simp[zR,qI,z6,rwI,jX,hs']<;>try omega
  rw[hs',List.take_left' (by simp),List.append_assoc]at hput
  exact hput.symm
 have hkn:k=ls.length:=by omega
 subst hkn
 have hlt':¬(ls.length:Int)<ls.length:=by omega
 simp (disch:=omega) [zz,hlt']
 refine hE _ _ (by simp) ?_
 rw[hF0]
 have he:=zjH cap F
 simp (disch:=omega) [zz,Tryz.f40,he]
 exact⟨b,cap,by omega,⟨rfl,rfl⟩,rfl,rfl⟩
theorem zfb (ls:List (List Nat)) (h0:0<ls.flatten.length) (hn:ls.flatten.length<=1000000000) (hk:ls.length<=1000000000) :
  PC Tryz.prog 40 [.av (.slice 23) (.sl .no (ls.map jX))] (.av (.slice 3) (jX ls.flatten)):=by
 refine(zfP ls _ rfl h0 hn hk).freeze laid ?_
 rintro r H' ⟨b,cap,h1,rfl,rfl⟩ _
 refine .inl ⟨b,cap,3,_,[],List.Perm.refl _,?_,rfl⟩
 simp only[zaK,fzA]
 rw[if_pos ⟨trivial,trivial,by omega,by omega⟩,List.drop_zero,List.take_left' (by rw[List.length_map])]
 rfl
end
section
variable [Sel] [SelPow] [SelMax]
def itF (f:Nat->Nat):Nat->Nat->Nat
 | 0,i=>i
 | k+1,i=>itF f k (f i)
theorem ZK (f:Nat->Nat):∀(a b i:Nat),itF f (a+b) i=itF f b (itF f a i)
 | 0,b,i=>by rw[Nat.zero_add];rfl
 | a+1,b,i=>by
  rw[show a+1+b=(a+b)+1 from by omega]
  exact ZK f a b (f i)
theorem cX (f:Nat->Nat) (k i:Nat):itF f (k+1) i=f (itF f k i):=ZK f k 1 i
def orb (f:Nat->Nat) (i n:Nat):List Nat:=(List.range n).map fun k=>itF f k i
theorem yR (f:Nat->Nat) (i n:Nat):(orb f i n).length=n:=by simp[orb]
theorem dH (f:Nat->Nat) (i n k:Nat) (h:k<(orb f i n).length):(orb f i n)[k]=itF f k i:=by simp[orb]
theorem gS {f:Nat->Nat} {i n j:Nat}:j∈orb f i n<->∃k,k<n/\itF f k i=j:=by simp[orb]
theorem G0 (f:Nat->Nat) (i n:Nat):orb f i (n+1)=orb f i n++[itF f n i]:=by simp[orb,List.range_succ]
theorem G8 (f:Nat->Nat) (i a:Nat):∀b:Nat,orb f i (a+b)=orb f i a++orb f (itF f a i) b
 | 0=>by simp[orb]
 | b+1=>by rw[<-Nat.add_assoc,G0,G8 f i a b,G0,ZK,List.append_assoc]
def XD (f:Nat->Nat) (l:List Nat):Prop:=∃h n,0<n/\l=orb f h n/\itF f n h=h/\l.Nodup/\∀j∈l,h<=j
theorem zlU {f:Nat->Nat} {h n:Nat} (hn:0<n) (hp:itF f n h=h):∀t,itF f t h∈orb f h n:=by
 intro t
 induction t using Nat.strongRecOn with
 | ind t ih =>
  by_cases ht:t<n
  ·exact gS.2 ⟨t,ht,rfl⟩
  ·have:=ih (t-n) (by omega)
   rw[show t=n+(t-n) from by omega,ZK,hp]
   exact this
theorem XD.step {f:Nat->Nat} {l:List Nat} (hl:XD f l) {j:Nat} (hj:j∈l) (t:Nat):itF f t j∈l:=by
 obtain⟨h,n,hn,rfl,hp,_,_⟩:=hl
 obtain⟨k,_,rfl⟩:=gS.1 hj
 rw[<-ZK]
 grind [zlU]
theorem XD.eq {f:Nat->Nat} {l m:List Nat} (hl:XD f l) (hm:XD f m) {j:Nat} (h1:j∈l) (h2:j∈m):l=m:=by
 have key:∀ {l m:List Nat} {h n:Nat},0<n->l=orb f h n->itF f n h=h->XD f m->j∈l->j∈m->h∈m:=by
  intro l m h n hn e hp hm h1 h2
  rw[e]at h1
  obtain⟨k,hk,rfl⟩:=gS.1 h1
  have:=hm.step h2 (n-k)
  rw[<-ZK,show k+(n-k)=n from by omega,hp]at this
  exact this
 have hl':=hl
 have hm':=hm
 obtain⟨h,n,hn,e1,hp,hd,hle⟩:=hl
 obtain⟨g,k,hk,e2,hq,hd2,hle2⟩:=hm
 have a1:=hle2 _ (key hn e1 hp hm' h1 h2)
 have a2:=hle _ (key hk e2 hq hl' h2 h1)
 have e:h=g:=by omega
 subst e
 have hnk:∀ {n k:Nat} {m:List Nat},0<n->n<k->itF f n h=h->m=orb f h k->m.Nodup->False:=by
  intro n k m hn hlt hp e hd
  subst e
  have hd:=List.pairwise_iff_getElem.1 hd 0 n (by grind [yR]) (by simp_all[yR]) hn
  rw[dH,dH,hp]at hd
  exact hd rfl
 grind
theorem XD.ne {f:Nat->Nat} {l:List Nat} (hl:XD f l):l≠[]:=by
 obtain⟨h,n,hn,rfl,_⟩:=hl
 intro e
 have:=congrArg List.length e
 grind [yR]
theorem XD.head {f:Nat->Nat} {l:List Nat} (hl:XD f l):∃h r,l=h::r/\∀j∈l,h<=j:=by
 obtain⟨h,n,hn,rfl,_,_,hm⟩:=hl
 obtain⟨k,rfl⟩:∃k,n=k+1:=⟨n-1,by omega⟩
 refine⟨h,orb f (f h) k,?_,hm⟩
 rw[Nat.add_comm,G8]
 rfl
noncomputable def zd5 (f:Nat->Nat) (i:Nat):List Nat:=if h:∃l,XD f l/\∃t,itF f t i∈l then h.choose else []
theorem zdb {f:Nat->Nat} {i t:Nat} {l:List Nat} (hl:XD f l) (ht:itF f t i∈l):zd5 f i=l:=by
 have h:∃l,XD f l/\∃t,itF f t i∈l:=⟨l,hl,t,ht⟩
 unfold zd5
 rw[dif_pos h]
 obtain⟨h1,s,h2⟩:=h.choose_spec
 have a:=h1.step h2 t
 have b:=hl.step ht s
 rw[<-ZK]at a b
 rw[Nat.add_comm]at b
 exact h1.eq hl a b
theorem zqL {f:Nat->Nat} {i k a at':Nat} {r:List Nat} (hd:(orb f i k).Nodup) (ha:a<k) (he:itF f a i=itF f k i) (hr:r=(orb f i k).drop a)
  (hat:at'<r.length) (hm:∀j∈r,r[at']<=j):XD f (r.drop at'++r.take at')/\itF f (a+at') i∈r.drop at'++r.take at':=by
 obtain⟨n,rfl⟩:∃n,k=a+n:=⟨k-a,by omega⟩
 have hr2:r=orb f (itF f a i) n:=by
  simp_all[G8,yR]
 rw[ZK]at he
 obtain⟨h,hh⟩:∃h,h=itF f a i:=⟨_,rfl⟩
 rw[<-hh]at he hr2
 have hn:r.length=n:=by rw[hr2,yR]
 have hlt:at'<n:=by omega
 have hdr:r.Nodup:=by grind
 obtain⟨m,rfl⟩:∃m,n=at'+m:=⟨n-at',by omega⟩
 have hp:itF f (at'+m) h=h:=he.symm
 have e1:r.drop at'++r.take at'=orb f (itF f at' h) (at'+m):=by
  grind [G8,yR,ZK]
 have zZ:r[at']=itF f at' h:=by
  grind [dH]
 have hmem:∀j,j∈r.drop at'++r.take at'<->j∈r:=fun j=>by
  rw[List.mem_append,Or.comm,<-List.mem_append,List.take_append_drop]
 refine⟨⟨itF f at' h,at'+m,by omega,e1,?_,?_,?_⟩,?_⟩
 ·rw[<-ZK,Nat.add_comm at' (at'+m),ZK,hp]
 ·grind [List.take_append_drop]
 ·grind
 grind [ZK]
theorem zkz {f:Nat->Nat} {i k a at':Nat} {r:List Nat} (hd:(orb f i k).Nodup) (ha:a<k) (he:itF f a i=itF f k i) (hr:r=(orb f i k).drop a)
  (hat:at'<r.length) (hm:∀j∈r,r[at']<=j):zd5 f i=r.drop at'++r.take at' :=
 zdb (zqL hd ha he hr hat hm).1 (zqL hd ha he hr hat hm).2
noncomputable def uA (S:wB) (i:Nat):Nat:=(S.who (xF S i).asks).getD 0
theorem zi5 {S:wB} {i m:Nat} (he:zfa S i) (h:jL S i=none) (hm:S.who (xF S i).asks=some m):jL S m=none:=by
 obtain⟨b,hb⟩:=he
 have e:xF S i=b:=by simp_all[xF]
 rw[e]at hm
 cases hl:jL S m with
 | none=>rfl
 | some o =>
  exfalso
  by_cases ho:b.over=true
  ·rw[(zeA ⟨b,hb⟩ (UJ 600 hb) ho).2]at h;cases h
  ·rcases zbU hl with hk|hk
   ·rcases d7 600 hb with h1|h1
    ·exact ho h1
    simp_all[kJ]
   ·rw[(CG ⟨b,hb⟩ (UJ 600 hb) (by simp_all) hm hl hk).2]at h;cases h
end
end Go.Proofs.YtdkieabmeiojjaaGreatDoor
