/- A row that grows, empty or not; a group of statements by itself. No condition. -/
import Derived.Test.YtdkieabmeiojjaaGreatDoorSC1ToP12
set_option linter.unusedSimpArgs false
set_option linter.unusedVariables false
set_option linter.unusedSectionVars false
set_option maxHeartbeats 64000000
section
set_option maxRecDepth 100000
namespace Go.Proofs.YtdkieabmeiojjaaGreatDoor
open Go Go.Ab
open Classical
variable [Sel]
def tkG (d:Nat):Nat->Ab.Tok
 | 0=>.full
 | k+1=>.own d (k+1)
theorem xQ {P:Program} {s:St} {d n:Nat} {e:TypeId} {xs ys:List AV} {K:St->Prop} (hv:s.ver d=n) (h1:2*(xs.length+ys.length)*P.bytesOf e<=281474976710656) (h2:xs.length+ys.length<=4611686018427387904) (h3:zB P e=true) (h4:jC P e=true)
  (hk:K (({ s with ver:=upd s.ver d (n+1) }:St).put (some d) (.av (.slice e) (.sl (tkG d (n+1)) (xs++ys))))):yT P s d e (tkG d n) xs ys K:=by
 refine⟨h1,h2,h3,h4,?_⟩
 cases n with
 | zero=>simpa only[tkG,hv]using hk
 | succ n =>
  refine⟨hv,?_⟩
  have:upd (upd s.ver d (s.ver d+1)) d (s.ver d+1)=upd s.ver d (s.ver d+1):=by
   funext j;simp only[upd];split<;>rfl
  rw[this,hv]
  exact hk
end Go.Proofs.YtdkieabmeiojjaaGreatDoor
end
section
set_option maxRecDepth 100000
namespace Go.Proofs.YtdkieabmeiojjaaGreatDoor
open Go Go.Ab
open Classical
variable [Sel] [SelPow] [SelMax]
structure zV where
 files:List jK
 acts:List QT
 wants:List Txt
 keep:Bool
def yV (w:zV):AV:=.agg [qL w.files,jP w.acts,.sl .no (strs w.wants),.b w.keep]
theorem cS (w:zV):(yV w).er=yV w:=by
 simp[ZT,yV,AV.ers_eq,strs]
def gG (a:QT):List CmdV:=match zL a.tool with
 | .ok cs=>cs
 | .error _=>[]
noncomputable def GO (a:QT):zJ:=X3 a.env a.outs (QS a) (gG a)
noncomputable def qW (w:zV):wB:=⟨fun i=>match w.acts[i]? with
 | some a=>GO a
 | none=>y8 1 (X3 [] [] (fun _=>false) []),wJ w.acts,w.files⟩
structure zoo (a:QT):Prop where
 b:zm2 a
 t:∃cs,zL a.tool=.ok cs
 o:∀p∈a.outs,p.length<=2000000
structure zd8 (w:zV):Prop where
 n:w.acts.length<=1000
 a:∀a∈w.acts,zoo a
 f:w.files.length<=2000000
 l:pS w.files=false
def zm6 (o:wZ):Prop:=pS o.outs=false/\o.outs.length<=2000000
theorem zoo.cs {a:QT} (h:zoo a):zL a.tool=.ok (gG a):=by
 obtain⟨cs,hc⟩:=h.t
 unfold gG;rw[hc]
theorem zaj {l:List QT} {p:Txt} {j:Nat} (h:wJ l p=some j):∃hj:j<l.length,p∈l[j].outs:=by
 obtain⟨hj,h1,_⟩:=List.findIdx?_eq_some_iff_getElem.1 h
 simp_all
theorem CP {w:zV} {i:Nat} (h:i<w.acts.length):(qW w).b0 i=GO w.acts[i]:=by
 simp[qW,List.getElem?_eq_getElem h]
section
variable {w:zV} (hw:zd8 w)
include hw
theorem zjW {D:Nat->Option wZ} (hD:∀i o,D i=some o->zm6 o):Ans (kJ (qW w) D):=by
 intro p k hk
 unfold kJ at hk
 cases hm:(qW w).who p with
 | none =>
  rw[hm]at hk
  exact zeF hw.l p k hk
 | some j =>
  rw[hm]at hk
  simp only at hk
  cases hd:D j with
  | none=>simp_all
  | some o =>
   rw[hd]at hk
   simp only at hk
   split at hk
   ·exact zeF (hD j o hd).1 p k hk
   ·cases hk
theorem zcr:∀(k:Nat) (i:Nat) (o:wZ),fuS (qW w) k i=some o->zm6 o
 | 0,_,_,h=>by cases h
 | k+1,i,o,h=>by
  have hf:=zjW hw (zcr k)
  have h:uK (qW w) (fuS (qW w) k) i=some o:=h
  unfold uK at h
  cases hg:goF (kJ (qW w) (fuS (qW w) k)) 600 ((qW w).b0 i)with
  | none=>simp_all
  | some b =>
   rw[hg]at h
   simp only at h
   by_cases hov:b.over=true
   ·rw[if_pos hov]at h
    cases h
    by_cases hi:i<w.acts.length
    ·have ha:=hw.a _ (List.getElem_mem hi)
     have hg2:goF (kJ (qW w) (fuS (qW w) k)) 600 (GO w.acts[i])=some b:=by simp_all[CP]
     have h3:=(zhU ha.b ha.o ha.cs hf hg2 hov).2.2.2
     refine⟨?_,h3.1⟩
     simp_all[pS]
    ·have hb:(qW w).b0 i=y8 1 (X3 [] [] (fun _=>false) []):=by simp_all[qW]
     rw[hb,goF,if_pos (show (y8 1 (X3 [] [] (fun _=>false) [])).over=true from rfl)]at hg
     grind [ZH,y8,pS,zm6]
   ·rw[if_neg hov]at h
    cases hm:(qW w).who b.asks with
    | none=>simp_all
    | some j =>
     rw[hm]at h
     simp only at h
     cases hd:fuS (qW w) k j with
     | none=>simp_all
     | some x =>
      rw[hd]at h
      simp only at h
      split at h
      ·cases h;exact⟨rfl,by simp⟩
      ·cases h
theorem zgE:Ans (kJ (qW w) (jL (qW w))):=zjW hw fun i o h=>by
 grind [ZF,zcr]
theorem zj4 (i:Nat):zm6 (kS (qW w) i):=by
 unfold kS
 cases h:jL (qW w) i with
 | none=>exact⟨rfl,by simp⟩
 | some o =>
  grind [ZF,zcr]
theorem zcU {i:Nat} (hi:i<w.acts.length):zfa (qW w) i/\∃kn,WN w.acts[i].env (gG w.acts[i]) w.acts[i].outs (QS w.acts[i]) kn ((qW w).b0 i):=by
 have ha:=hw.a _ (List.getElem_mem hi)
 obtain⟨b',g1,g2,_⟩:=zmO ha.cs (by have:=ha.b.be;omega:w.acts[i].env.length<=1000000000) ha.b.bev (outs:=w.acts[i].outs) (may:=QS w.acts[i]) (zgE hw)
 rw[CP hi]
 exact⟨⟨b',by rw[CP hi];exact g1⟩,[],g2⟩
end
def ovE (l:List (Nat × wZ)):List (AV × AV):=l.map fun p=>(.i .i64 p.1,z7 p.2)
def wyE (l:List Nat):List (AV × AV):=l.map fun i:Nat=>(AV.i .i64 (i:Int),AV.b true)
def wtE (l:List (Nat × Txt)):List (AV × AV):=l.map fun p=>(.i .i64 p.1,.s p.2)
theorem WV (a b:Nat):(AV.i .i64 (a:Int)=.i .i64 (b:Int))<->a=b:=by
 grind
theorem dP (i:Nat):∀l:List (Nat × wZ),wQ (.i .i64 (i:Int)) (ovE l)=(l.find? fun p=>decide (p.1=i)).map fun p=>z7 p.2
 | []=>rfl
 | p::l=>by
  have ih:=dP i l
  simp only[ovE,List.map_cons,wQ,WV,List.find?_cons]at ih |-
  by_cases h:p.1=i
  ·simp[h]
  ·simp[h,ih]
theorem zdA (i:Nat):∀l:List Nat,wQ (.i .i64 (i:Int)) (wyE l)=if i∈l then some (.b true) else none
 | []=>rfl
 | x::l=>by
  have ih:=zdA i l
  simp only[wyE,List.map_cons,wQ,WV,List.mem_cons]at ih |-
  by_cases h:x=i
  ·simp[h]
  ·have h':¬i=x:=fun e=>h e.symm
   simp[h,h',ih]
theorem zh7 (i:Nat):∀l:List Nat,i∉l->K3 (.i .i64 (i:Int)) (.b true) (wyE l)=wyE (l++[i])
 | [],_=>rfl
 | x::l,h=>by
  simp only[List.mem_cons,not_or]at h
  have ih:=zh7 i l h.2
  have hx:¬x=i:=fun e=>h.1 e.symm
  simp only[wyE,List.map_cons,K3,WV,List.cons_append,hx,if_false]at ih |-
  rw[ih]
theorem dD (i:Nat):∀l:List Nat,i∉l->C3 (.i .i64 (i:Int)) (wyE (l++[i]))=wyE l
 | [],_=>by simp[wyE,C3]
 | x::l,h=>by
  simp only[List.mem_cons,not_or]at h
  have ih:=dD i l h.2
  have hx:¬x=i:=fun e=>h.1 e.symm
  simp only[wyE,List.map_cons,C3,WV,List.cons_append,hx,if_false]at ih |-
  rw[ih]
theorem zhj (i:Nat) (o:wZ):∀l:List (Nat × wZ),i∉l.map Prod.fst->K3 (.i .i64 (i:Int)) (z7 o) (ovE l)=ovE (l++[(i,o)])
 | [],_=>rfl
 | x::l,h=>by
  simp only[List.map_cons,List.mem_cons,not_or]at h
  have ih:=zhj i o l h.2
  have hx:¬x.1=i:=fun e=>h.1 e.symm
  simp only[ovE,List.map_cons,K3,WV,List.cons_append,hx,if_false]at ih |-
  rw[ih]
def C8 (i:Nat) (p:Txt):List (Nat × Txt)->List (Nat × Txt)
 | []=>[(i,p)]
 | x::l=>if x.1=i then(i,p)::l else x::C8 i p l
theorem zgR (i:Nat) (p:Txt):∀l:List (Nat × Txt),K3 (.i .i64 (i:Int)) (.s p) (wtE l)=wtE (C8 i p l)
 | []=>rfl
 | x::l=>by
  have ih:=zgR i p l
  simp only[wtE,List.map_cons,K3,WV,C8]at ih |-
  by_cases h:x.1=i
  ·simp[h]
  ·simp[h,ih]
theorem GH (i:Nat) (p:Txt) (j:Nat):∀l:List (Nat × Txt),(C8 i p l).find? (fun q=>decide (q.1=j))=if j=i then some (i,p) else l.find? fun q=>decide (q.1=j)
 | []=>by
  grind [C8]
 | x::l=>by
  have ih:=GH i p j l
  unfold C8
  grind
noncomputable abbrev BdT:TyD:=q9 Tryz.prog 86
noncomputable def bdO (w:zV) (O Y T:Nat):HObj:=.var BdT (.agg [yV w,.map (some O),.map (some Y),.map (some T)])
noncomputable def bdH (B O Y T:Nat) (w:zV) (W:List Nat) (x:BdV):q8:=[(B,bdO w O Y T),(O,.map 3 31 (ovE x.ov)),(Y,.map 3 4 (wyE W)),(T,.map 3 9 (wtE x.wt))]
@[simp] theorem zkf (w:zV) (O Y T:Nat):(bdO w O Y T).er=bdO w O Y T:=by
 simp[bdO,HObj.er_var,yV,jP,AV.erk,AV.erks,AV.ers_eq,Function.comp_def,strs,AV.er]
@[simp] theorem zog (l:List (Nat × wZ)):(ovE l).map (fun p=>(p.1.er,p.2.er))=ovE l:=by
 simp only[ovE,List.map_map]
 exact List.map_congr_left fun p _=>by simp[AV.er,Q5]
@[simp] theorem zoJ (l:List Nat):(wyE l).map (fun p=>(p.1.er,p.2.er))=wyE l:=by
 simp only[wyE,List.map_map]
 exact List.map_congr_left fun p _=>by simp[AV.er]
@[simp] theorem zoh (l:List (Nat × Txt)):(wtE l).map (fun p=>(p.1.er,p.2.er))=wtE l:=by
 simp only[wtE,List.map_map]
 exact List.map_congr_left fun p _=>by simp[AV.er]
@[simp] theorem znK (l:List QT):(jP l).erk=jP l:=by simp[jP,AV.erk,AV.ers_eq,Function.comp_def]
theorem YD (B O Y T:Nat) (w:zV) (W:List Nat) (x:BdV):(bdH B O Y T w W x).er=bdH B O Y T w W x:=by
 simp[bdH]
end Go.Proofs.YtdkieabmeiojjaaGreatDoor
end
section
set_option maxRecDepth 100000
namespace Go.Proofs.YtdkieabmeiojjaaGreatDoor
open Go Go.Ab
open Classical
variable [Sel] [SelPow] [SelMax]
noncomputable abbrev zhJ:TyD:=q9 Tryz.prog 31
structure NeB (B O Y T:Nat):Prop where
 bo:O≠B
 by':Y≠B
 bt:T≠B
 oy:Y≠O
 ot:T≠O
 yt:T≠Y
theorem zha {B O Y T:Nat} {w:zV} {W:List Nat} {x:BdV} (h:(bdH B O Y T w W x).keys.Nodup):NeB B O Y T:=by
 simp only[bdH,q8.keys,List.map_cons,List.map_nil,List.nodup_cons,List.mem_cons,List.not_mem_nil,or_false,not_or,not_false_eq_true,and_true,List.nodup_nil]at h
 obtain⟨⟨h1,h2,h3⟩,⟨h4,h5⟩,h6⟩:=h
 exact⟨fun e=>h1 e.symm,fun e=>h2 e.symm,fun e=>h3 e.symm,fun e=>h4 e.symm,fun e=>h5 e.symm,fun e=>h6 e.symm⟩
def BrC (B O Y T:Nat) (w:zV) (W:List Nat) (i:Nat) (x:BdV):Prop :=
 q7 Tryz.prog 24 [.av .ptr (.ptr B BdT []),.av (.int .i64) (.i .i64 i)] (bdH B O Y T w W x) fun r H'=>∃x',r=.av zhJ (z7 (kS (qW w) i))/\KN (qW w) w.acts.length W x'/\(∀j,j∈x.ov.map Prod.fst->j∈x'.ov.map Prod.fst)/\i∈x'.ov.map Prod.fst/\PQ (qW w) x x' i/\H'=bdH B O Y T w W x'
def ziV (B O Y T:Nat) (w:zV) (W:List Nat) (p:Txt) (x:BdV) (r:TV) (H':q8):Prop:=∃x',r=.tup [(KnT,jD (JD (qW w) W p).1),(.int .i64,.i .i64 (JD (qW w) W p).2)]/\KN (qW w) w.acts.length W x'/\(∀j,j∈x.ov.map Prod.fst->j∈x'.ov.map Prod.fst)/\(∀j,wJ w.acts p=some j->j∈W\/j∈x'.ov.map Prod.fst)/\ziO (qW w) x x' p/\H'=bdH B O Y T w W x'
abbrev zq8:Cfg:=⟨fun _=>false,fun _=>false⟩
theorem ze5 (B O Y T:Nat) (w:zV) (hw:zd8 w) (W:List Nat) (p:Txt) (x:BdV) (hx:KN (qW w) w.acts.length W x)
  (hb:∀j,wJ w.acts p=some j->j∉W->BrC B O Y T w W j x) :
  q7 Tryz.prog 35 [.av .ptr (.ptr B BdT []),.av .str (.s p)] (bdH B O Y T w W x) (ziV B O Y T w W p x):=by
 refine q7.nodup fun hnd=>?_
 have hne:=zha hnd
 have n1:¬B=Y:=fun e=>hne.by' e.symm
 have n2:¬O=Y:=fun e=>hne.oy e.symm
 have hmk:=zdw w.acts (by have:=hw.n;omega) (fun a ha=>by have:=(hw.a a ha).b.bo;omega) p
 have hea:=ZT w.acts
 have hef:=j6 w.files
 have hbe:=zkf w O Y T
 have hHe:=YD B O Y T w W x
 have hbd:∀x,bdH B O Y T w W x=[(B,.var BdT (.agg [.agg [qL w.files,jP w.acts,.sl .no (strs w.wants),.b w.keep],.map (some O),.map (some Y),.map (some T)])),(O,.map 3 31 (ovE x.ov)),(Y,.map 3 4 (wyE W)),(T,.map 3 9 (wtE x.wt))]:=fun _=>rfl
 have hwho:(qW w).who p=wJ w.acts p:=rfl
 have hfs:(qW w).fs=w.files:=rfl
 refine zov Tryz.func35 zq8 fun imm0 w0=>?_
 simp (disch:=omega) [zz,hbd]
 refine qO hmk rfl rfl (by simp) (by simp[qR,TV.er,AV.er,hea]) ?_
 cases hm:wJ w.acts p with
 | none =>
  have hc:JD (qW w) W p=(JI w.files p,1):=by unfold JD;rw[hwho,hm];rfl
  have htg:=zgQ w.files (by have:=hw.f;omega) p
  have htp:=zby w.files p
  simp (disch:=omega) [zz]
  refine qO htg rfl rfl (by simp) (by simp[qR,TV.er,AV.er,hef]) ?_
  simp (disch:=omega) [zz,Tryz.f35]
  exact⟨x,by rw[hc];simp[jD,htp],hx,fun _ h=>h,fun j h=>(by rw[hm]at h;cases h),.refl _ _ _,by simp[hbd]⟩
 | some j =>
  obtain⟨hj,_⟩:=zaj hm
  have hfd:=zdA j W
  by_cases hjW:j∈W
  ·have hc:JD (qW w) W p=(⟨p,false,[]⟩,3):=by unfold JD;rw[hwho,hm];simp only;rw[if_pos hjW]
   rw[if_pos hjW]at hfd
   simp (disch:=omega) [zz,n1,n2,hfd]
   simp (disch:=omega) [zz,Tryz.f35]
   exact⟨x,by rw[hc];simp[jD],hx,fun _ h=>h,fun k h=>(by rw[hm]at h;cases h;exact .inl hjW),.refl _ _ _,by simp[hbd]⟩
  ·rw[if_neg hjW]at hfd
   have hbr:=hb j hm hjW
   have hc:JD (qW w) W p=if (kS (qW w) j).kind=1 then(JI (kS (qW w) j).outs p,1) else(⟨p,false,[]⟩,(kS (qW w) j).kind):=by unfold JD;rw[hwho,hm];simp only;rw[if_neg hjW]
   simp (disch:=omega) [zz,n1,n2,hfd]
   refine qD (R:=fun r H'=>∃x',r=.av zhJ (z7 (kS (qW w) j))/\KN (qW w) w.acts.length W x'/\(∀k,k∈x.ov.map Prod.fst->k∈x'.ov.map Prod.fst)/\j∈x'.ov.map Prod.fst/\PQ (qW w) x x' j/\H'=bdH B O Y T w W x') (bdH B O Y T w W x) [] (by simp[hbd]) rfl (by simp[qE]) (by simp) ?_ ?_
   ·rw[hHe]
    exact q7.args hbr (by simp[qR,TV.er,AV.er])
   rintro r' H' ⟨x',rfl,hx',hsub,hji,hnb,rfl⟩ _
   have hnp:ziO (qW w) x x' p:=fun k hk=>(hnb k hk).imp_right fun h=>⟨j,hm,h⟩
   refine⟨bdH B O Y T w W x',by simpa using HSub.refl _,?_⟩
   have hHe':=YD B O Y T w W x'
   obtain⟨o,ho⟩:∃o,o=kS (qW w) j:=⟨_,rfl⟩
   rw[<-ho]at hc |-
   have hend:∀k,wJ w.acts p=some k->k∈W\/k∈x'.ov.map Prod.fst:=fun k h=>by rw[hm]at h;cases h;exact .inr hji
   by_cases hk:o.kind=1
   ·rw[if_pos hk]at hc
    have htg:=zgQ o.outs (by have:=(zj4 hw j).2;rw[<-ho]at this;omega) p
    have htp:=zby o.outs p
    have heo:=j6 o.outs
    simp (disch:=omega) [zz,z7,hk]
    refine qO htg rfl rfl (by simp) (by simp[qR,TV.er,AV.er,heo]) ?_
    simp (disch:=omega) [zz,Tryz.f35]
    exact⟨x',by rw[hc];simp[jD,htp],hx',hsub,hend,hnp,hHe'⟩
   ·rw[if_neg hk]at hc
    simp (disch:=omega) [zz,z7,hk]
    (repeat with_reducible refine om ?_)
    simp (disch:=omega) [zz,Tryz.f35]
    exact⟨x',by rw[hc];simp[jD],hx',hsub,hend,hnp,hHe'⟩
structure BrS where
 kn:List KnV
 b:zJ
 x:BdV
 H:q8
def zkw:AV:=.agg [.i .i64 0,.i .i64 0,.sl .full [],.sl .full []]
abbrev zpo:Cfg:=⟨fun _=>false,fun _=>false⟩
noncomputable def zmK (B O Y T X:Nat) (w:zV) (W:List Nat) (i:Nat) (x:BrS):St:=St.of [(0,.av .ptr (.ptr B BdT [])),(1,.av (.int .i64) (.i .i64 i)),(4,.loc 4 []),(7,.av .ptr (.ptr X UN [])),(9,.loc 9 []),(10,.av (.slice 97) (.sl (tkG 85 x.b.reads.length) (x.b.reads.map qX)))] [(4,(zhJ,zkw)),(9,(zhJ,zkw))] (fun j=>if j=85 then x.b.reads.length else 0) (x.H++bdH B O Y T w (W++[i]) x.x)
theorem KJ (B O Y T:Nat) (w:zV) (W:List Nat) (x:BdV):bdH B O Y T w W x=[(B,.var BdT (.agg [.agg [qL w.files,jP w.acts,.sl .no (strs w.wants),.b w.keep],.map (some O),.map (some Y),.map (some T)])),(O,.map 3 31 (ovE x.ov)),(Y,.map 3 4 (wyE W)),(T,.map 3 9 (wtE x.wt))]:=rfl
theorem cD (i:Nat) (v:AV):∀l:List (Nat × wZ),i∉l.map Prod.fst->K3 (.i .i64 (i:Int)) v (ovE l)=ovE l++[(.i .i64 (i:Int),v)]
 | [],_=>rfl
 | p::l,h=>by
  have h1:¬p.1=i:=fun e=>h (by simp[e])
  have h2:=cD i v l fun h'=>h (by simp at h';simp[h'])
  unfold ovE at h2 |-
  simp only[List.map_cons,K3,WV,List.cons_append,h1,if_false,h2]
theorem pA (l:List KH):AV.ers (l.map qX)=l.map qX:=by
 have h:=YA l
 simpa[zC,AV.er]using h
theorem gD (l:List QT):AV.ers (l.map wW)=l.map wW:=by
 have h:=ZT l
 simpa[jP,AV.er]using h
theorem zel {i:Nat} {p:Txt} {q:Nat × Txt}:∀ {l:List (Nat × Txt)},q∈C8 i p l->q.1=i\/q∈l
 | [],h=>by simp[C8]at h;simp[h]
 | x::l,h=>by
  unfold C8 at h
  split at h
  ·rcases List.mem_cons.1 h with h|h
   ·simp[h]
   ·simp[h]
  ·rcases List.mem_cons.1 h with h|h
   ·simp[h]
   ·rcases zel h with h|h
    ·simp[h]
    ·simp[h]
theorem zh8 (l:List (Nat × wZ)) (i:Nat) (k y:Int) (r:List KH):ovE l++[(.i .i64 (i:Int),.agg [.i .i64 k,.i .i64 y,.sl .no [],.sl .no (AV.ers (r.map qX))])]=ovE (l++[(i,⟨k,y,[],r⟩)]):=by
 rw[pA];simp[ovE,z7,qL,zC]
theorem zib (B O Y T:Nat) (w:zV) (hw:zd8 w) (W:List Nat) (i:Nat) (x:BdV) (hx:KN (qW w) w.acts.length W x) (hi:i<w.acts.length) (hW:i∉W) (hp:zgk (qW w) W i)
  (ih:∀j x,KN (qW w) w.acts.length (W++[i]) x->j<w.acts.length->j∉W++[i]->zgk (qW w) (W++[i]) j->BrC B O Y T w (W++[i]) j x):BrC B O Y T w W i x:=by
 refine q7.nodup fun hnd=>?_
 have hne:=zha hnd
 have n1:=hne.bo
 have n2:=hne.by'
 have n3:=hne.bt
 have n4:=hne.oy
 have n5:=hne.ot
 have n6:=hne.yt
 have m1:¬B=O:=fun e=>n1 e.symm
 have m2:¬B=Y:=fun e=>n2 e.symm
 have m3:¬B=T:=fun e=>n3 e.symm
 have m4:¬O=Y:=fun e=>n4 e.symm
 have m5:¬O=T:=fun e=>n5 e.symm
 have m6:¬Y=T:=fun e=>n6 e.symm
 refine q7.sub (R:=fun r H'=>∃x' H1,r=.av zhJ (z7 (kS (qW w) i))/\KN (qW w) w.acts.length W x'/\(∀j,j∈x.ov.map Prod.fst->j∈x'.ov.map Prod.fst)/\i∈x'.ov.map Prod.fst/\PQ (qW w) x x' i/\H'=bdH B O Y T w W x'++H1) ?_ (fun r H' ⟨x',H1,h1,h2,h3,h4,h6,h5⟩ _=>⟨bdH B O Y T w W x',HSub.of_sub (by rw[h5];exact List.sublist_append_left _ _),x',h1,h2,h3,h4,h6,rfl⟩)
 have hHe:=YD B O Y T w W x
 have hfo:=dP i x.ov
 refine q7.of_vcD laid mixed [some _,none,some _,some _] Tryz.func24 rfl zpo (by kernel_rfl) (by kernel_rfl) (by kernel_rfl) (by simp[Tryz.ntmps24]) fun imm0 w0=>?_
 by_cases hov:i∈x.ov.map Prod.fst
 ·obtain⟨p,hpm,hpi⟩:=List.mem_map.1 hov
  obtain⟨q,hq⟩:∃q,x.ov.find? (fun p=>decide (p.1=i))=some q:=by
   cases h:x.ov.find? (fun p=>decide (p.1=i))with
   | some q=>exact⟨q,rfl⟩
   | none =>
    rw[List.find?_eq_none]at h
    have:=h p hpm
    simp at this;exact absurd hpi this
  have hqi:q.1=i:=by simpa using List.find?_some hq
  have hqo:q.2=kS (qW w) i:=by rw[<-hqi];exact(hx.fin q (List.mem_of_find?_eq_some hq)).2
  rw[hq]at hfo
  simp only[Option.map_some,hqo]at hfo
  have heo:=Q5 (kS (qW w) i)
  simp (disch:=omega) [zz,D7,CV,zbR,KJ,n1,m1,hfo,Tryz.f24,heo]
  exact⟨x,hx,fun _ o h=>⟨o,h⟩,⟨p.2,by rw[<-hpi];exact hpm⟩,.refl _ _ _,rfl,rfl⟩
 ·have hnone:x.ov.find? (fun p=>decide (p.1=i))=none:=by
   rw[List.find?_eq_none]
   intro p hpm hpi
   exact hov (List.mem_map.2 ⟨p,hpm,by simpa using hpi⟩)
  rw[hnone]at hfo
  simp (disch:=omega) [zz,D7,CV,zbR,KJ,n1,m1,n2,m2,n4,m4,hfo,zh7 i W hW]
  have hHe2:=YD B O Y T w (W++[i]) x
  have hnew:=zod w.acts[i] (hw.a _ (List.getElem_mem hi)).b
  have hcs:=(hw.a _ (List.getElem_mem hi)).cs
  unfold zo6 at hnew
  rw[hcs]at hnew
  simp only at hnew
  have hea:=pC w.acts[i]
  simp (disch:=omega) [zz,ze9,zfk,n1,m1,n2,m2,n4,m4,hfo,zkY,jP,hi]
  refine qD (R:=fun r H'=>∃X,r=.tup [(.ptr,.ptr X UN []),(.int .i64,.i .i64 0)]/\ZY X (GO w.acts[i]) H') [] (bdH B O Y T w (W++[i]) x) (by exact List.Perm.refl _) rfl (by simp[qE]) (by simp) ?_ ?_
  ·simpa[TV.er,hea,GO,q8.er_nil]using hnew
  rintro r H1 ⟨X,rfl,hH⟩ hnd2
  refine⟨_,HSub.refl _,?_⟩
  simp (disch:=omega) [zz,VG]
  have hend:=(zcU hw hi).1
  have hb0:=CP hi
  have hcsA:=(hw.a _ (List.getElem_mem hi)).cs
  have haB:=(hw.a _ (List.getElem_mem hi)).b
  refine AT.loop' (α:=BrS) (zmK B O Y T X w W i) (fun y=>ZY X y.b y.H/\WN w.acts[i].env (gG w.acts[i]) w.acts[i].outs (QS w.acts[i]) y.kn y.b/\kL (kJ (qW w) (jL (qW w))) ((qW w).b0 i) y.b/\KN (qW w) w.acts.length (W++[i]) y.x/\(∀j,j∈x.ov.map Prod.fst->j∈y.x.ov.map Prod.fst)/\PQ (qW w) x y.x i/\xJ (qW w) i (y.x.ov.map Prod.fst++(W++[i])) y.b) (fun y=>600-y.kn.length) ⟨[],GO w.acts[i],x,H1⟩ ?_ ⟨hH,?_,?_,hx.begin hi hW hov,fun j h=>h,.refl _ _ _,by rw[<-CP hi];exact .start _ _ _⟩ ?_
  ·obtain⟨_,s1⟩:=(dV hcsA (env:=w.acts[i].env) (by have:=haB.be;omega) haB.bev w.acts[i].outs (QS w.acts[i])).s
   have hr0:(GO w.acts[i]).reads=[]:=s1.reads
   unfold zmK
   simp only[hr0,List.length_nil,List.map_nil]
   apply Le.of<;>simp[zR,qI,z6,tkG,zkw]<;>try omega
  ·exact dV hcsA (by have:=haB.be;omega) haB.bev _ _
  ·rw[hb0];exact .refl _
  rintro⟨kn,b,y,H2⟩ ⟨g1,g2,g3,g4,g5,g6,g7⟩ KL hN hE
  simp only at g1 g2 g3 g4 g5 g6 g7
  have hHe3:=YD B O Y T w (W++[i]) y
  have hask:=zn3 X g1
  have hni:=(g4.wn i (by simp)).2
  have hkeep:∀j o,(j,o)∈x.ov->∃o',(j,o')∈y.ov++[(i,kS (qW w) i)]:=fun j o h=>by
   obtain⟨q,q1,q2⟩:=List.mem_map.1 (g5 j (List.mem_map.2 ⟨_,h,rfl⟩))
   exact⟨q.2,List.mem_append_left _ (by rw[<-q2];exact q1)⟩
  have hbe:=g1.er
  unfold zmK
  refine zrd zpo ?_
  simp (disch:=omega) [zz]
  refine qD (R:=fun z H'=>z=.tup [(.str,.s (if b.over=true then [] else b.asks)),(.bool,.b (!b.over))]/\ZY X b H') H2 (bdH B O Y T w (W++[i]) y) (List.Perm.refl _) rfl (by simp[qE]) (by simp) ?_ ?_
  ·rw[hbe];simpa[TV.er,AV.er]using hask
  rintro z H3 ⟨rfl,hB3⟩ _
  refine⟨_,HSub.refl _,?_⟩
  have hbe3:=hB3.er
  by_cases ho:b.over=true
  ·have hers:(z7 (ZH b).1).er=z7 (ZH b).1:=Q5 _
   have hout:=zfA X hB3 (by have:=g2.rl;omega) (g2.wl haB.bo)
   obtain⟨f1,f2⟩:=zeA hend g3 ho
   rw[<-f1]at hout hers
   rw[if_pos ho,ho]
   simp (disch:=omega) [zz]
   refine qD (R:=fun z H'=>z=.tup [(zhJ,z7 (kS (qW w) i)),(.bool,.b (ZH b).2)]/\ZY X b H') H3 (bdH B O Y T w (W++[i]) y) (List.Perm.refl _) rfl (by simp[qE]) (by simp) ?_ ?_
   ·rw[hbe3];simpa[TV.er,AV.er]using hout
   rintro z H4 ⟨rfl,hB4⟩ _
   refine⟨bdH B O Y T w (W++[i]) y++H4,HSub.of_perm List.perm_append_comm,?_⟩
   have hbe4:=hB4.er
   simp (disch:=omega) [zz]
   refine hE _ _ (by simp) ?_
   simp (disch:=omega) [zz,VG,KJ,n1,n2,n3,n4,n5,n6,m1,m2,m3,m4,m5,m6,zhj i (kS (qW w) i) y.ov hni,dD i W hW,jP,Tryz.f24]
   have hdone:=g4.done y.wt (fun _ _=>rfl) (fun h=>by rw[f2]at h;cases h) g4.wt (g7.over ho)
   exact⟨by kernel_rfl,_,hdone,fun j o h=>hkeep j o h,⟨_,List.mem_append_right _ (List.mem_singleton.2 rfl)⟩,g6.done _ _,gD _,rfl,rfl⟩
  ·have ho':b.over=false:=by simpa using ho
   have hasl:b.asks.length<=1040:=g2.askl ho'
   have hcome:=ze5 B O Y T w hw (W++[i]) b.asks y g4 fun j hm hj=>by
    obtain⟨hjn,_⟩:=zaj hm
    exact ih j y g4 hjn hj (hp.cons ⟨b.asks,⟨b,g3,ho',rfl⟩,hm⟩)
   rw[if_neg ho,ho']
   simp (disch:=omega) [zz]
   refine qD (R:=ziV B O Y T w (W++[i]) b.asks y) (bdH B O Y T w (W++[i]) y) H3 List.perm_append_comm rfl (by simp[qE]) (by simp) ?_ ?_
   ·rw[hHe3];simpa[TV.er,AV.er]using hcome
   rintro z H4 ⟨y2,rfl,e1,e2,e3,e4,rfl⟩ _
   have g62:=g6.step e4 ⟨b,g3,ho',rfl⟩
   have hmk2:∀j,(qW w).who b.asks=some j->j∈y2.ov.map Prod.fst++(W++[i]):=fun j hj=>List.mem_append.2 (e3 j hj).symm
   have g72:=g7.mono (L':=y2.ov.map Prod.fst++(W++[i])) fun j hj=>(List.mem_append.1 hj).elim (fun h=>List.mem_append_left _ (e2 j h)) fun h=>List.mem_append_right _ h
   refine⟨_,HSub.refl _,?_⟩
   have hni2:=(e1.wn i (by simp)).2
   have hkeep2:∀j o,(j,o)∈x.ov->∃o',(j,o')∈y2.ov++[(i,kS (qW w) i)]:=fun j o h=>by
    obtain⟨q,q1,q2⟩:=List.mem_map.1 (e2 j (g5 j (List.mem_map.2 ⟨_,h,rfl⟩)))
    exact⟨q.2,List.mem_append_left _ (by rw[<-q2];exact q1)⟩
   have hHe4:=YD B O Y T w (W++[i]) y2
   rcases zfy hp hend g3 ho' with⟨c1,c2⟩|⟨c1,c2,c5⟩|⟨c1,c2,⟨c3,c4⟩,c5⟩
   ·rw[c1]
    obtain⟨k,hk⟩:∃k,k=(JD (qW w) (W++[i]) b.asks).1:=⟨_,rfl⟩
    rw[<-hk]at c2 |-
    obtain⟨hkp,hkd⟩:=zgE hw _ _ c2
    have hke:=(cP k).1
    simp (disch:=omega) [zz]
    refine qO (zk1 k (by omega)) rfl rfl (by simp[qE]) (by simp[qR,TV.er,AV.er,hke]) ?_
    simp (disch:=omega) [zz]
    have hrl:=g2.rl
    have hgv:=ziU X hB3 g2.g k (by omega) (by omega) (fun h1 h2 h3=>g2.can k h1 h2 (fun _=>hkd))
    obtain⟨v1,v2⟩:=g2.give k ho' hkp (fun _=>hkd)
    have hrd:(y4 k b).2.reads=b.reads++[QW k]:=by
     obtain⟨_,s1⟩:=g2.s
     obtain⟨_,s2⟩:=v2.s
     rw[s1.reads,s2.reads];simp
    refine xQ (by simp) (by simp;omega) (by simp;omega) (by simp) (by simp) ?_
    simp (disch:=omega) [zz]
    refine qD (R:=fun z H'=>z=.av (.int .i64) (.i .i64 (y4 k b).1)/\ZY X (y4 k b).2 H') H3 (bdH B O Y T w (W++[i]) y2) List.perm_append_comm rfl (by simp[qE]) (by simp) ?_ ?_
    ·rw[hbe3];simpa[TV.er,AV.er,hke]using hgv
    rintro z H5 ⟨rfl,hB5⟩ _
    refine⟨_,HSub.refl _,?_⟩
    simp (disch:=omega) [zz]
    have hkl:(kn++[k]).length<=500:=by
     have:=v2.rl
     obtain⟨_,s2⟩:=v2.s
     rw[s2.reads]at this;simpa using this
    refine hN _ ⟨kn++[k],(y4 k b).2,y2,H5⟩ ?_ ⟨hB5,v2,g3.snoc ho' c2,e1,fun j h=>e2 j (g5 j h),g62,g72.step c2 hmk2⟩ (by simp at hkl |-;omega)
    unfold zmK
    simp only[hrd,List.length_append,List.length_singleton,List.map_append,List.map_cons,List.map_nil]
    apply Le.of<;>simp[zR,qI,z6]<;>try omega
    all_goals (intro j;by_cases hj:j=85<;>simp[hj])
   ·rw[c1]
    simp (disch:=omega) [zz]
    refine hE _ _ (by simp) ?_
    simp (disch:=omega) [zz,VG,KJ,n1,n2,n3,n4,n5,n6,m1,m2,m3,m4,m5,m6,cD i _ y2.ov hni2,dD i W hW,jP,Tryz.f24]
    have hdone:=e1.done y2.wt (fun _ _=>rfl) (fun h=>by
     exfalso
     rcases D1 (qW w) i with⟨h1,_⟩|⟨h1,_⟩
     ·rw[c2]at h1;simp at h1
     ·rw[h]at h1;cases h1) e1.wt (g72.stop c5 hmk2)
    exact⟨by kernel_rfl,by rw[c2,pA];rfl,_,hdone,hkeep2,⟨_,List.mem_append_right _ (List.mem_singleton.2 rfl)⟩,g62.done _ _,gD _,by rw[zh8,c2],rfl⟩
   ·rw[c1]
    simp (disch:=omega) [zz,KJ,n1,n2,n3,n4,n5,n6,m1,m2,m3,m4,m5,m6,zgR]
    refine hE _ _ (by simp) ?_
    simp (disch:=omega) [zz,VG,KJ,n1,n2,n3,n4,n5,n6,m1,m2,m3,m4,m5,m6,cD i _ y2.ov hni2,dD i W hW,jP,Tryz.f24]
    have hdone:=e1.done (C8 i b.asks y2.wt) (fun j hj=>by rw[GH,if_neg hj]) (fun _=>by
     rw[GH,if_pos rfl,c4]
     refine⟨rfl,?_⟩
     cases hm:(qW w).who b.asks with
     | none=>unfold JD at c1;rw[hm]at c1;simp at c1
     | some m=>exact⟨m,rfl,(e3 m hm).symm⟩) (fun q hq=>by
     rcases zel hq with h|h
     ·exact .inr (by rw[h];simp)
     ·exact e1.wt q h) (g72.stop c5 hmk2)
    exact⟨by kernel_rfl,by rw[c2,pA];rfl,_,hdone,hkeep2,⟨_,List.mem_append_right _ (List.mem_singleton.2 rfl)⟩,g62.done _ _,gD _,by rw[zh8,c2],rfl⟩
theorem zbn (B O Y T:Nat) (w:zV) (hw:zd8 w):∀(m:Nat) (W:List Nat) (i:Nat) (x:BdV),w.acts.length-W.length<=m->KN (qW w) w.acts.length W x->i<w.acts.length->i∉W->zgk (qW w) W i->BrC B O Y T w W i x
 | 0,W,i,x,hm,hx,hi,hW,hp=>by have:=hx.room hi hW;omega
 | m+1,W,i,x,hm,hx,hi,hW,hp=>zib B O Y T w hw W i x hx hi hW hp fun j y hy hj hjW hpj=>zbn B O Y T w hw m (W++[i]) j y (by simp;omega) hy hj hjW hpj
theorem zeD (B O Y T:Nat) (w:zV) (hw:zd8 w) (i:Nat) (x:BdV) (hx:KN (qW w) w.acts.length [] x) (hi:i<w.acts.length):BrC B O Y T w [] i x :=
 zbn B O Y T w hw _ [] i x (Nat.le_refl _) hx hi (by simp) fun w hw=>by simp at hw
end Go.Proofs.YtdkieabmeiojjaaGreatDoor
end
