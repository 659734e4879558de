/- A row that grows, empty or not; a group of statements by itself. No condition. -/
import Derived.Test.YtfkcpballfhddaaGreatDoorFW0ToSBC
set_option linter.unusedSimpArgs false
set_option linter.unusedVariables false
set_option linter.unusedSectionVars false
set_option maxHeartbeats 64000000
section
set_option maxRecDepth 100000
namespace Go.Proofs.YtfkcpballfhddaaGreatDoor
open Go Go.Ab
open Classical
variable [Sel]
def tkG (d:Nat):Nat->Ab.Tok
 | 0=>.full
 | k+1=>.own d (k+1)
theorem KX {P:Program} {s:St} {d n:Nat} {e:TypeId} {xs ys:List AV} {K:St->Prop} (hv:s.ver d=n) (h1:2*(xs.length+ys.length)*P.bytesOf e<=281474976710656) (h2:xs.length+ys.length<=4611686018427387904) (h3:zB P e=true) (h4:k7 P e=true)
  (hk:K (({ s with ver:=upd s.ver d (n+1) }:St).put (some d) (.av (.slice e) (.sl (tkG d (n+1)) (xs++ys))))):y4 P s d e (tkG d n) xs ys K:=by
 refine⟨h1,h2,h3,h4,?_⟩
 cases n with
 | zero=>simpa only[tkG,hv]using hk
 | succ n =>
  refine⟨hv,?_⟩
  have:upd (upd s.ver d (s.ver d+1)) d (s.ver d+1)=upd s.ver d (s.ver d+1):=by
   funext j;simp only[upd];split<;>rfl
  rw[this,hv]
  exact hk
end Go.Proofs.YtfkcpballfhddaaGreatDoor
end
section
set_option maxRecDepth 100000
namespace Go.Proofs.YtfkcpballfhddaaGreatDoor
open Go Go.Ab
open Classical
variable [Sel] [SelPow] [SelMax]
structure qQ where
 files:List jM
 acts:List wD
 wants:List Txt
 keep:Bool
def j7 (w:qQ):AV:=.agg [qH w.files,jC w.acts,.sl .no (strs w.wants),.b w.keep]
theorem JW (w:qQ):(j7 w).er=j7 w:=by
 simp[ZY,j7,AV.ers_eq,strs]
def vZ (a:wD):List CmdV:=match jB a.tool with
 | .ok cs=>cs
 | .error _=>[]
noncomputable def DF (a:wD):j9:=U0 a.env a.outs (Z8 a) (vZ a)
noncomputable def qL (w:qQ):kV:=⟨fun i=>match w.acts[i]? with
 | some a=>DF a
 | none=>Q0 1 (U0 [] [] (fun _=>false) []),jK w.acts,w.files⟩
structure zrx (a:wD):Prop where
 b:zpy a
 t:∃cs,jB a.tool=.ok cs
 o:∀p∈a.outs,p.length<=2000000
structure gA (w:qQ):Prop where
 n:w.acts.length<=1000
 a:∀a∈w.acts,zrx a
 f:w.files.length<=2000000
 l:C0 w.files=false
def zp3 (o:yH):Prop:=C0 o.outs=false/\o.outs.length<=2000000
theorem zrx.cs {a:wD} (h:zrx a):jB a.tool=.ok (vZ a):=by
 obtain⟨cs,hc⟩:=h.t
 unfold vZ;rw[hc]
theorem Q6 {l:List wD} {p:Txt} {j:Nat} (h:jK l p=some j):∃hj:j<l.length,p∈l[j].outs:=by
 obtain⟨hj,h1,_⟩:=List.findIdx?_eq_some_iff_getElem.1 h
 simp_all
theorem uK {w:qQ} {i:Nat} (h:i<w.acts.length):(qL w).b0 i=DF w.acts[i]:=by
 simp[qL,List.getElem?_eq_getElem h]
section
variable {w:qQ} (hw:gA w)
include hw
theorem zoC {D:Nat->Option yH} (hD:∀i o,D i=some o->zp3 o):Ans (kF (qL w) D):=by
 intro p k hk
 unfold kF at hk
 cases hm:(qL w).who p with
 | none =>
  rw[hm]at hk
  exact zfo hw.l p k hk
 | some j =>
  rw[hm]at hk
  simp only at hk
  cases hd:D j with
  | none=>simp_all
  | some o =>
   rw[hd]at hk
   simp only at hk
   split at hk
   ·exact zfo (hD j o hd).1 p k hk
   ·cases hk
theorem zej:∀(k:Nat) (i:Nat) (o:yH),fuS (qL w) k i=some o->zp3 o
 | 0,_,_,h=>by cases h
 | k+1,i,o,h=>by
  have hf:=zoC hw (zej k)
  have h:xF (qL w) (fuS (qL w) k) i=some o:=h
  unfold xF at h
  cases hg:goF (kF (qL w) (fuS (qL w) k)) 600 ((qL w).b0 i)with
  | none=>simp_all
  | some b =>
   rw[hg]at h
   simp only at h
   by_cases hov:b.over=true
   ·rw[if_pos hov]at h
    cases h
    by_cases hi:i<w.acts.length
    ·have ha:=hw.a _ (List.getElem_mem hi)
     have hg2:goF (kF (qL w) (fuS (qL w) k)) 600 (DF w.acts[i])=some b:=by simp_all[uK]
     have h3:=(zkO ha.b ha.o ha.cs hf hg2 hov).2.2.2
     refine⟨?_,h3.1⟩
     simp_all[C0]
    ·have hb:(qL w).b0 i=Q0 1 (U0 [] [] (fun _=>false) []):=by simp_all[qL]
     rw[hb,goF,if_pos (show (Q0 1 (U0 [] [] (fun _=>false) [])).over=true from rfl)]at hg
     grind [JH,Q0,C0,zp3]
   ·rw[if_neg hov]at h
    cases hm:(qL w).who b.asks with
    | none=>simp_all
    | some j =>
     rw[hm]at h
     simp only at h
     cases hd:fuS (qL w) k j with
     | none=>simp_all
     | some x =>
      rw[hd]at h
      simp only at h
      split at h
      ·cases h;exact⟨rfl,by simp⟩
      ·cases h
theorem PM:Ans (kF (qL w) (jI (qL w))):=zoC hw fun i o h=>by
 grind [QI,zej]
theorem zap (i:Nat):zp3 (jH (qL w) i):=by
 unfold jH
 cases h:jI (qL w) i with
 | none=>exact⟨rfl,by simp⟩
 | some o =>
  grind [QI,zej]
theorem v8 {i:Nat} (hi:i<w.acts.length):zi5 (qL w) i/\∃kn,YO w.acts[i].env (vZ w.acts[i]) w.acts[i].outs (Z8 w.acts[i]) kn ((qL w).b0 i):=by
 have ha:=hw.a _ (List.getElem_mem hi)
 obtain⟨b',g1,g2,_⟩:=zpL ha.cs (by have:=ha.b.be;omega:w.acts[i].env.length<=1000000000) ha.b.bev (outs:=w.acts[i].outs) (may:=Z8 w.acts[i]) (PM hw)
 rw[uK hi]
 exact⟨⟨b',by rw[uK hi];exact g1⟩,[],g2⟩
end
def ovE (l:List (Nat × yH)):List (AV × AV):=l.map fun p=>(.i .i64 p.1,qU p.2)
def wyE (l:List Nat):List (AV × AV):=l.map fun i:Nat=>(AV.i .i64 (i:Int),AV.b true)
def wtE (l:List (Nat × Txt)):List (AV × AV):=l.map fun p=>(.i .i64 p.1,.s p.2)
theorem xR (a b:Nat):(AV.i .i64 (a:Int)=.i .i64 (b:Int))<->a=b:=by
 grind
theorem zai (i:Nat):∀l:List (Nat × yH),yK (.i .i64 (i:Int)) (ovE l)=(l.find? fun p=>decide (p.1=i)).map fun p=>qU p.2
 | []=>rfl
 | p::l=>by
  have ih:=zai i l
  simp only[ovE,List.map_cons,yK,xR,List.find?_cons]at ih |-
  by_cases h:p.1=i
  ·simp[h]
  ·simp[h,ih]
theorem zgt (i:Nat):∀l:List Nat,yK (.i .i64 (i:Int)) (wyE l)=if i∈l then some (.b true) else none
 | []=>rfl
 | x::l=>by
  have ih:=zgt i l
  simp only[wyE,List.map_cons,yK,xR,List.mem_cons]at ih |-
  by_cases h:x=i
  ·simp[h]
  ·have h':¬i=x:=fun e=>h e.symm
   simp[h,h',ih]
theorem ziZ (i:Nat):∀l:List Nat,i∉l->WG (.i .i64 (i:Int)) (.b true) (wyE l)=wyE (l++[i])
 | [],_=>rfl
 | x::l,h=>by
  simp only[List.mem_cons,not_or]at h
  have ih:=ziZ i l h.2
  have hx:¬x=i:=fun e=>h.1 e.symm
  simp only[wyE,List.map_cons,WG,xR,List.cons_append,hx,if_false]at ih |-
  rw[ih]
theorem za6 (i:Nat):∀l:List Nat,i∉l->zaU (.i .i64 (i:Int)) (wyE (l++[i]))=wyE l
 | [],_=>by simp[wyE,zaU]
 | x::l,h=>by
  simp only[List.mem_cons,not_or]at h
  have ih:=za6 i l h.2
  have hx:¬x=i:=fun e=>h.1 e.symm
  simp only[wyE,List.map_cons,zaU,xR,List.cons_append,hx,if_false]at ih |-
  rw[ih]
theorem zjq (i:Nat) (o:yH):∀l:List (Nat × yH),i∉l.map Prod.fst->WG (.i .i64 (i:Int)) (qU o) (ovE l)=ovE (l++[(i,o)])
 | [],_=>rfl
 | x::l,h=>by
  simp only[List.map_cons,List.mem_cons,not_or]at h
  have ih:=zjq i o l h.2
  have hx:¬x.1=i:=fun e=>h.1 e.symm
  simp only[ovE,List.map_cons,WG,xR,List.cons_append,hx,if_false]at ih |-
  rw[ih]
def zcq (i:Nat) (p:Txt):List (Nat × Txt)->List (Nat × Txt)
 | []=>[(i,p)]
 | x::l=>if x.1=i then(i,p)::l else x::zcq i p l
theorem ziL (i:Nat) (p:Txt):∀l:List (Nat × Txt),WG (.i .i64 (i:Int)) (.s p) (wtE l)=wtE (zcq i p l)
 | []=>rfl
 | x::l=>by
  have ih:=ziL i p l
  simp only[wtE,List.map_cons,WG,xR,zcq]at ih |-
  by_cases h:x.1=i
  ·simp[h]
  ·simp[h,ih]
theorem dS (i:Nat) (p:Txt) (j:Nat):∀l:List (Nat × Txt),(zcq i p l).find? (fun q=>decide (q.1=j))=if j=i then some (i,p) else l.find? fun q=>decide (q.1=j)
 | []=>by
  grind [zcq]
 | x::l=>by
  have ih:=dS i p j l
  unfold zcq
  grind
noncomputable abbrev BdT:TyD:=q9 Tryz.prog 76
noncomputable def bdO (w:qQ) (O Y T:Nat):HObj:=.var BdT (.agg [j7 w,.map (some O),.map (some Y),.map (some T)])
noncomputable def bdH (B O Y T:Nat) (w:qQ) (W:List Nat) (x:BdV):q8:=[(B,bdO w O Y T),(O,.map 3 46 (ovE x.ov)),(Y,.map 3 4 (wyE W)),(T,.map 3 9 (wtE x.wt))]
@[simp] theorem zrM (w:qQ) (O Y T:Nat):(bdO w O Y T).er=bdO w O Y T:=by
 simp[bdO,HObj.er_var,j7,jC,AV.erk,AV.erks,AV.ers_eq,Function.comp_def,strs,AV.er]
@[simp] theorem ztz (l:List (Nat × yH)):(ovE l).map (fun p=>(p.1.er,p.2.er))=ovE l:=by
 simp only[ovE,List.map_map]
 exact List.map_congr_left fun p _=>by simp[AV.er,wM]
@[simp] theorem zt5 (l:List Nat):(wyE l).map (fun p=>(p.1.er,p.2.er))=wyE l:=by
 simp only[wyE,List.map_map]
 exact List.map_congr_left fun p _=>by simp[AV.er]
@[simp] theorem zte (l:List (Nat × Txt)):(wtE l).map (fun p=>(p.1.er,p.2.er))=wtE l:=by
 simp only[wtE,List.map_map]
 exact List.map_congr_left fun p _=>by simp[AV.er]
@[simp] theorem zqG (l:List wD):(jC l).erk=jC l:=by simp[jC,AV.erk,AV.ers_eq,Function.comp_def]
theorem YW (B O Y T:Nat) (w:qQ) (W:List Nat) (x:BdV):(bdH B O Y T w W x).er=bdH B O Y T w W x:=by
 simp[bdH]
end Go.Proofs.YtfkcpballfhddaaGreatDoor
end
section
set_option maxRecDepth 100000
namespace Go.Proofs.YtfkcpballfhddaaGreatDoor
open Go Go.Ab
open Classical
variable [Sel] [SelPow] [SelMax]
noncomputable abbrev zkY:TyD:=q9 Tryz.prog 46
structure NeB (B O Y T:Nat):Prop where
 bo:O≠B
 by':Y≠B
 bt:T≠B
 oy:Y≠O
 ot:T≠O
 yt:T≠Y
theorem zjj {B O Y T:Nat} {w:qQ} {W:List Nat} {x:BdV} (h:(bdH B O Y T w W x).keys.Nodup):NeB B O Y T:=by
 simp only[bdH,q8.keys,List.map_cons,List.map_nil,List.nodup_cons,List.mem_cons,List.not_mem_nil,or_false,not_or,not_false_eq_true,and_true,List.nodup_nil]at h
 obtain⟨⟨h1,h2,h3⟩,⟨h4,h5⟩,h6⟩:=h
 exact⟨fun e=>h1 e.symm,fun e=>h2 e.symm,fun e=>h3 e.symm,fun e=>h4 e.symm,fun e=>h5 e.symm,fun e=>h6 e.symm⟩
def BrC (B O Y T:Nat) (w:qQ) (W:List Nat) (i:Nat) (x:BdV):Prop :=
 q7 Tryz.prog 26 [.av .ptr (.ptr B BdT []),.av (.int .i64) (.i .i64 i)] (bdH B O Y T w W x) fun r H'=>∃x',r=.av zkY (qU (jH (qL w) i))/\WP (qL w) w.acts.length W x'/\(∀j,j∈x.ov.map Prod.fst->j∈x'.ov.map Prod.fst)/\i∈x'.ov.map Prod.fst/\CN (qL w) x x' i/\H'=bdH B O Y T w W x'
def zms (B O Y T:Nat) (w:qQ) (W:List Nat) (p:Txt) (x:BdV) (r:TV) (H':q8):Prop:=∃x',r=.tup [(KnT,kA (J9 (qL w) W p).1),(.int .i64,.i .i64 (J9 (qL w) W p).2)]/\WP (qL w) w.acts.length W x'/\(∀j,j∈x.ov.map Prod.fst->j∈x'.ov.map Prod.fst)/\(∀j,jK w.acts p=some j->j∈W\/j∈x'.ov.map Prod.fst)/\zl2 (qL w) x x' p/\H'=bdH B O Y T w W x'
abbrev ztl:Cfg:=⟨fun _=>false,fun _=>false⟩
theorem zgT (B O Y T:Nat) (w:qQ) (hw:gA w) (W:List Nat) (p:Txt) (x:BdV) (hx:WP (qL w) w.acts.length W x)
  (hb:∀j,jK w.acts p=some j->j∉W->BrC B O Y T w W j x) :
  q7 Tryz.prog 24 [.av .ptr (.ptr B BdT []),.av .str (.s p)] (bdH B O Y T w W x) (zms B O Y T w W p x):=by
 refine q7.nodup fun hnd=>?_
 have hne:=zjj hnd
 have n1:¬B=Y:=fun e=>hne.by' e.symm
 have n2:¬O=Y:=fun e=>hne.oy e.symm
 have hmk:=zgB w.acts (by have:=hw.n;omega) (fun a ha=>by have:=(hw.a a ha).b.bo;omega) p
 have hea:=ZY w.acts
 have hef:=jJ w.files
 have hbe:=zrM w O Y T
 have hHe:=YW B O Y T w W x
 have hbd:∀x,bdH B O Y T w W x=[(B,.var BdT (.agg [.agg [qH w.files,jC w.acts,.sl .no (strs w.wants),.b w.keep],.map (some O),.map (some Y),.map (some T)])),(O,.map 3 46 (ovE x.ov)),(Y,.map 3 4 (wyE W)),(T,.map 3 9 (wtE x.wt))]:=fun _=>rfl
 have hwho:(qL w).who p=jK w.acts p:=rfl
 have hfs:(qL w).fs=w.files:=rfl
 refine zov Tryz.func24 ztl fun imm0 w0=>?_
 simp (disch:=omega) [zz,hbd]
 refine qG hmk rfl rfl (by simp) (by simp[qM,TV.er,AV.er,hea]) ?_
 cases hm:jK w.acts p with
 | none =>
  have hc:J9 (qL w) W p=(ZK w.files p,1):=by unfold J9;rw[hwho,hm];rfl
  have htg:=zjV w.files (by have:=hw.f;omega) p
  have htp:=dQ w.files p
  simp (disch:=omega) [zz]
  refine qG htg rfl rfl (by simp) (by simp[qM,TV.er,AV.er,hef]) ?_
  simp (disch:=omega) [zz,Tryz.f24]
  exact⟨x,by rw[hc];simp[kA,htp],hx,fun _ h=>h,fun j h=>(by rw[hm]at h;cases h),.refl _ _ _,by simp[hbd]⟩
 | some j =>
  obtain⟨hj,_⟩:=Q6 hm
  have hfd:=zgt j W
  by_cases hjW:j∈W
  ·have hc:J9 (qL w) W p=(⟨p,false,[]⟩,3):=by unfold J9;rw[hwho,hm];simp only;rw[if_pos hjW]
   rw[if_pos hjW]at hfd
   simp (disch:=omega) [zz,n1,n2,hfd]
   simp (disch:=omega) [zz,Tryz.f24]
   exact⟨x,by rw[hc];simp[kA],hx,fun _ h=>h,fun k h=>(by rw[hm]at h;cases h;exact .inl hjW),.refl _ _ _,by simp[hbd]⟩
  ·rw[if_neg hjW]at hfd
   have hbr:=hb j hm hjW
   have hc:J9 (qL w) W p=if (jH (qL w) j).kind=1 then(ZK (jH (qL w) j).outs p,1) else(⟨p,false,[]⟩,(jH (qL w) j).kind):=by unfold J9;rw[hwho,hm];simp only;rw[if_neg hjW]
   simp (disch:=omega) [zz,n1,n2,hfd]
   refine qD (R:=fun r H'=>∃x',r=.av zkY (qU (jH (qL w) j))/\WP (qL w) w.acts.length W x'/\(∀k,k∈x.ov.map Prod.fst->k∈x'.ov.map Prod.fst)/\j∈x'.ov.map Prod.fst/\CN (qL w) x x' j/\H'=bdH B O Y T w W x') (bdH B O Y T w W x) [] (by simp[hbd]) rfl (by simp[qI]) (by simp) ?_ ?_
   ·rw[hHe]
    exact q7.args hbr (by simp[qM,TV.er,AV.er])
   rintro r' H' ⟨x',rfl,hx',hsub,hji,hnb,rfl⟩ _
   have hnp:zl2 (qL w) x x' p:=fun k hk=>(hnb k hk).imp_right fun h=>⟨j,hm,h⟩
   refine⟨bdH B O Y T w W x',by simpa using HSub.refl _,?_⟩
   have hHe':=YW B O Y T w W x'
   obtain⟨o,ho⟩:∃o,o=jH (qL w) j:=⟨_,rfl⟩
   rw[<-ho]at hc |-
   have hend:∀k,jK w.acts p=some k->k∈W\/k∈x'.ov.map Prod.fst:=fun k h=>by rw[hm]at h;cases h;exact .inr hji
   by_cases hk:o.kind=1
   ·rw[if_pos hk]at hc
    have htg:=zjV o.outs (by have:=(zap hw j).2;rw[<-ho]at this;omega) p
    have htp:=dQ o.outs p
    have heo:=jJ o.outs
    simp (disch:=omega) [zz,qU,hk]
    refine qG htg rfl rfl (by simp) (by simp[qM,TV.er,AV.er,heo]) ?_
    simp (disch:=omega) [zz,Tryz.f24]
    exact⟨x',by rw[hc];simp[kA,htp],hx',hsub,hend,hnp,hHe'⟩
   ·rw[if_neg hk]at hc
    simp (disch:=omega) [zz,qU,hk]
    (repeat with_reducible refine om ?_)
    simp (disch:=omega) [zz,Tryz.f24]
    exact⟨x',by rw[hc];simp[kA],hx',hsub,hend,hnp,hHe'⟩
structure BrS where
 kn:List KnV
 b:j9
 x:BdV
 H:q8
def zn3:AV:=.agg [.i .i64 0,.i .i64 0,.sl .full [],.sl .full []]
abbrev zsK:Cfg:=⟨fun _=>false,fun _=>false⟩
noncomputable def zql (B O Y T X:Nat) (w:qQ) (W:List Nat) (i:Nat) (x:BrS):St:=St.of [(0,.av .ptr (.ptr B BdT [])),(1,.av (.int .i64) (.i .i64 i)),(4,.loc 4 []),(7,.av .ptr (.ptr X VY [])),(9,.loc 9 []),(10,.av (.slice 53) (.sl (tkG 85 x.b.reads.length) (x.b.reads.map zG)))] [(4,(zkY,zn3)),(9,(zkY,zn3))] (fun j=>if j=85 then x.b.reads.length else 0) (x.H++bdH B O Y T w (W++[i]) x.x)
theorem WZ (B O Y T:Nat) (w:qQ) (W:List Nat) (x:BdV):bdH B O Y T w W x=[(B,.var BdT (.agg [.agg [qH w.files,jC w.acts,.sl .no (strs w.wants),.b w.keep],.map (some O),.map (some Y),.map (some T)])),(O,.map 3 46 (ovE x.ov)),(Y,.map 3 4 (wyE W)),(T,.map 3 9 (wtE x.wt))]:=rfl
theorem zaB (i:Nat) (v:AV):∀l:List (Nat × yH),i∉l.map Prod.fst->WG (.i .i64 (i:Int)) v (ovE l)=ovE l++[(.i .i64 (i:Int),v)]
 | [],_=>rfl
 | p::l,h=>by
  have h1:¬p.1=i:=fun e=>h (by simp[e])
  have h2:=zaB i v l fun h'=>h (by simp at h';simp[h'])
  unfold ovE at h2 |-
  simp only[List.map_cons,WG,xR,List.cons_append,h1,if_false,h2]
theorem DI (l:List xE):AV.ers (l.map zG)=l.map zG:=by
 have h:=WU l
 simpa[zO,AV.er]using h
theorem YV (l:List wD):AV.ers (l.map zI)=l.map zI:=by
 have h:=ZY l
 simpa[jC,AV.er]using h
theorem zfu {i:Nat} {p:Txt} {q:Nat × Txt}:∀ {l:List (Nat × Txt)},q∈zcq i p l->q.1=i\/q∈l
 | [],h=>by simp[zcq]at h;simp[h]
 | x::l,h=>by
  unfold zcq at h
  split at h
  ·rcases List.mem_cons.1 h with h|h
   ·simp[h]
   ·simp[h]
  ·rcases List.mem_cons.1 h with h|h
   ·simp[h]
   ·rcases zfu h with h|h
    ·simp[h]
    ·simp[h]
theorem zjK (l:List (Nat × yH)) (i:Nat) (k y:Int) (r:List xE):ovE l++[(.i .i64 (i:Int),.agg [.i .i64 k,.i .i64 y,.sl .no [],.sl .no (AV.ers (r.map zG))])]=ovE (l++[(i,⟨k,y,[],r⟩)]):=by
 rw[DI];simp[ovE,qU,qH,zO]
theorem zkL (B O Y T:Nat) (w:qQ) (hw:gA w) (W:List Nat) (i:Nat) (x:BdV) (hx:WP (qL w) w.acts.length W x) (hi:i<w.acts.length) (hW:i∉W) (hp:zhS (qL w) W i)
  (ih:∀j x,WP (qL w) w.acts.length (W++[i]) x->j<w.acts.length->j∉W++[i]->zhS (qL w) (W++[i]) j->BrC B O Y T w (W++[i]) j x):BrC B O Y T w W i x:=by
 refine q7.nodup fun hnd=>?_
 have hne:=zjj hnd
 have n1:=hne.bo
 have n2:=hne.by'
 have n3:=hne.bt
 have n4:=hne.oy
 have n5:=hne.ot
 have n6:=hne.yt
 have m1:¬B=O:=fun e=>n1 e.symm
 have m2:¬B=Y:=fun e=>n2 e.symm
 have m3:¬B=T:=fun e=>n3 e.symm
 have m4:¬O=Y:=fun e=>n4 e.symm
 have m5:¬O=T:=fun e=>n5 e.symm
 have m6:¬Y=T:=fun e=>n6 e.symm
 refine q7.sub (R:=fun r H'=>∃x' H1,r=.av zkY (qU (jH (qL w) i))/\WP (qL w) w.acts.length W x'/\(∀j,j∈x.ov.map Prod.fst->j∈x'.ov.map Prod.fst)/\i∈x'.ov.map Prod.fst/\CN (qL w) x x' i/\H'=bdH B O Y T w W x'++H1) ?_ (fun r H' ⟨x',H1,h1,h2,h3,h4,h6,h5⟩ _=>⟨bdH B O Y T w W x',HSub.of_sub (by rw[h5];exact List.sublist_append_left _ _),x',h1,h2,h3,h4,h6,rfl⟩)
 have hHe:=YW B O Y T w W x
 have hfo:=zai i x.ov
 refine q7.of_vcD laid mixed [some _,none,some _,some _] Tryz.func26 rfl zsK (by kernel_rfl) (by kernel_rfl) (by kernel_rfl) (by simp[Tryz.ntmps26]) fun imm0 w0=>?_
 by_cases hov:i∈x.ov.map Prod.fst
 ·obtain⟨p,hpm,hpi⟩:=List.mem_map.1 hov
  obtain⟨q,hq⟩:∃q,x.ov.find? (fun p=>decide (p.1=i))=some q:=by
   cases h:x.ov.find? (fun p=>decide (p.1=i))with
   | some q=>exact⟨q,rfl⟩
   | none =>
    rw[List.find?_eq_none]at h
    have:=h p hpm
    simp at this;exact absurd hpi this
  have hqi:q.1=i:=by simpa using List.find?_some hq
  have hqo:q.2=jH (qL w) i:=by rw[<-hqi];exact(hx.fin q (List.mem_of_find?_eq_some hq)).2
  rw[hq]at hfo
  simp only[Option.map_some,hqo]at hfo
  have heo:=wM (jH (qL w) i)
  simp (disch:=omega) [zz,zaJ,zau,zdN,WZ,n1,m1,hfo,Tryz.f26,heo]
  exact⟨x,hx,fun _ o h=>⟨o,h⟩,⟨p.2,by rw[<-hpi];exact hpm⟩,.refl _ _ _,rfl,rfl⟩
 ·have hnone:x.ov.find? (fun p=>decide (p.1=i))=none:=by
   rw[List.find?_eq_none]
   intro p hpm hpi
   exact hov (List.mem_map.2 ⟨p,hpm,by simpa using hpi⟩)
  rw[hnone]at hfo
  simp (disch:=omega) [zz,zaJ,zau,zdN,WZ,n1,m1,n2,m2,n4,m4,hfo,ziZ i W hW]
  have hHe2:=YW B O Y T w (W++[i]) x
  have hnew:=zrn w.acts[i] (hw.a _ (List.getElem_mem hi)).b
  have hcs:=(hw.a _ (List.getElem_mem hi)).cs
  unfold zrQ at hnew
  rw[hcs]at hnew
  simp only at hnew
  have hea:=uA w.acts[i]
  simp (disch:=omega) [zz,zh1,zhc,n1,m1,n2,m2,n4,m4,hfo,zmc,jC,hi]
  refine qD (R:=fun r H'=>∃X,r=.tup [(.ptr,.ptr X VY []),(.int .i64,.i .i64 0)]/\KP X (DF w.acts[i]) H') [] (bdH B O Y T w (W++[i]) x) (by exact List.Perm.refl _) rfl (by simp[qI]) (by simp) ?_ ?_
  ·simpa[TV.er,hea,DF,q8.er_nil]using hnew
  rintro r H1 ⟨X,rfl,hH⟩ hnd2
  refine⟨_,HSub.refl _,?_⟩
  simp (disch:=omega) [zz,pQ]
  have hend:=(v8 hw hi).1
  have hb0:=uK hi
  have hcsA:=(hw.a _ (List.getElem_mem hi)).cs
  have haB:=(hw.a _ (List.getElem_mem hi)).b
  refine AT.loop' (α:=BrS) (zql B O Y T X w W i) (fun y=>KP X y.b y.H/\YO w.acts[i].env (vZ w.acts[i]) w.acts[i].outs (Z8 w.acts[i]) y.kn y.b/\kM (kF (qL w) (jI (qL w))) ((qL w).b0 i) y.b/\WP (qL w) w.acts.length (W++[i]) y.x/\(∀j,j∈x.ov.map Prod.fst->j∈y.x.ov.map Prod.fst)/\CN (qL w) x y.x i/\XW (qL w) i (y.x.ov.map Prod.fst++(W++[i])) y.b) (fun y=>600-y.kn.length) ⟨[],DF w.acts[i],x,H1⟩ ?_ ⟨hH,?_,?_,hx.begin hi hW hov,fun j h=>h,.refl _ _ _,by rw[<-uK hi];exact .start _ _ _⟩ ?_
  ·obtain⟨_,s1⟩:=(zbc hcsA (env:=w.acts[i].env) (by have:=haB.be;omega) haB.bev w.acts[i].outs (Z8 w.acts[i])).s
   have hr0:(DF w.acts[i]).reads=[]:=s1.reads
   unfold zql
   simp only[hr0,List.length_nil,List.map_nil]
   apply Le.of<;>simp[zA,qF,qJ,tkG,zn3]<;>try omega
  ·exact zbc hcsA (by have:=haB.be;omega) haB.bev _ _
  ·rw[hb0];exact .refl _
  rintro⟨kn,b,y,H2⟩ ⟨g1,g2,g3,g4,g5,g6,g7⟩ KL hN hE
  simp only at g1 g2 g3 g4 g5 g6 g7
  have hHe3:=YW B O Y T w (W++[i]) y
  have hask:=zqc X g1
  have hni:=(g4.wn i (by simp)).2
  have hkeep:∀j o,(j,o)∈x.ov->∃o',(j,o')∈y.ov++[(i,jH (qL w) i)]:=fun j o h=>by
   obtain⟨q,q1,q2⟩:=List.mem_map.1 (g5 j (List.mem_map.2 ⟨_,h,rfl⟩))
   exact⟨q.2,List.mem_append_left _ (by rw[<-q2];exact q1)⟩
  have hbe:=g1.er
  unfold zql
  refine zrd zsK ?_
  simp (disch:=omega) [zz]
  refine qD (R:=fun z H'=>z=.tup [(.str,.s (if b.over=true then [] else b.asks)),(.bool,.b (!b.over))]/\KP X b H') H2 (bdH B O Y T w (W++[i]) y) (List.Perm.refl _) rfl (by simp[qI]) (by simp) ?_ ?_
  ·rw[hbe];simpa[TV.er,AV.er]using hask
  rintro z H3 ⟨rfl,hB3⟩ _
  refine⟨_,HSub.refl _,?_⟩
  have hbe3:=hB3.er
  by_cases ho:b.over=true
  ·have hers:(qU (JH b).1).er=qU (JH b).1:=wM _
   have hout:=ziv X hB3 (by have:=g2.rl;omega) (g2.wl haB.bo)
   obtain⟨f1,f2⟩:=zbK hend g3 ho
   rw[<-f1]at hout hers
   rw[if_pos ho,ho]
   simp (disch:=omega) [zz]
   refine qD (R:=fun z H'=>z=.tup [(zkY,qU (jH (qL w) i)),(.bool,.b (JH b).2)]/\KP X b H') H3 (bdH B O Y T w (W++[i]) y) (List.Perm.refl _) rfl (by simp[qI]) (by simp) ?_ ?_
   ·rw[hbe3];simpa[TV.er,AV.er]using hout
   rintro z H4 ⟨rfl,hB4⟩ _
   refine⟨bdH B O Y T w (W++[i]) y++H4,HSub.of_perm List.perm_append_comm,?_⟩
   have hbe4:=hB4.er
   simp (disch:=omega) [zz]
   refine hE _ _ (by simp) ?_
   simp (disch:=omega) [zz,pQ,WZ,n1,n2,n3,n4,n5,n6,m1,m2,m3,m4,m5,m6,zjq i (jH (qL w) i) y.ov hni,za6 i W hW,jC,Tryz.f26]
   have hdone:=g4.done y.wt (fun _ _=>rfl) (fun h=>by rw[f2]at h;cases h) g4.wt (g7.over ho)
   exact⟨by kernel_rfl,_,hdone,fun j o h=>hkeep j o h,⟨_,List.mem_append_right _ (List.mem_singleton.2 rfl)⟩,g6.done _ _,YV _,rfl,rfl⟩
  ·have ho':b.over=false:=by simpa using ho
   have hasl:b.asks.length<=1040:=g2.askl ho'
   have hcome:=zgT B O Y T w hw (W++[i]) b.asks y g4 fun j hm hj=>by
    obtain⟨hjn,_⟩:=Q6 hm
    exact ih j y g4 hjn hj (hp.cons ⟨b.asks,⟨b,g3,ho',rfl⟩,hm⟩)
   rw[if_neg ho,ho']
   simp (disch:=omega) [zz]
   refine qD (R:=zms B O Y T w (W++[i]) b.asks y) (bdH B O Y T w (W++[i]) y) H3 List.perm_append_comm rfl (by simp[qI]) (by simp) ?_ ?_
   ·rw[hHe3];simpa[TV.er,AV.er]using hcome
   rintro z H4 ⟨y2,rfl,e1,e2,e3,e4,rfl⟩ _
   have g62:=g6.step e4 ⟨b,g3,ho',rfl⟩
   have hmk2:∀j,(qL w).who b.asks=some j->j∈y2.ov.map Prod.fst++(W++[i]):=fun j hj=>List.mem_append.2 (e3 j hj).symm
   have g72:=g7.mono (L':=y2.ov.map Prod.fst++(W++[i])) fun j hj=>(List.mem_append.1 hj).elim (fun h=>List.mem_append_left _ (e2 j h)) fun h=>List.mem_append_right _ h
   refine⟨_,HSub.refl _,?_⟩
   have hni2:=(e1.wn i (by simp)).2
   have hkeep2:∀j o,(j,o)∈x.ov->∃o',(j,o')∈y2.ov++[(i,jH (qL w) i)]:=fun j o h=>by
    obtain⟨q,q1,q2⟩:=List.mem_map.1 (e2 j (g5 j (List.mem_map.2 ⟨_,h,rfl⟩)))
    exact⟨q.2,List.mem_append_left _ (by rw[<-q2];exact q1)⟩
   have hHe4:=YW B O Y T w (W++[i]) y2
   rcases zic hp hend g3 ho' with⟨c1,c2⟩|⟨c1,c2,c5⟩|⟨c1,c2,⟨c3,c4⟩,c5⟩
   ·rw[c1]
    obtain⟨k,hk⟩:∃k,k=(J9 (qL w) (W++[i]) b.asks).1:=⟨_,rfl⟩
    rw[<-hk]at c2 |-
    obtain⟨hkp,hkd⟩:=PM hw _ _ c2
    have hke:=(zbN k).1
    simp (disch:=omega) [zz]
    refine qG (zmY k (by omega)) rfl rfl (by simp[qI]) (by simp[qM,TV.er,AV.er,hke]) ?_
    simp (disch:=omega) [zz]
    have hrl:=g2.rl
    have hgv:=zmW X hB3 g2.g k (by omega) (by omega) (fun h1 h2 h3=>g2.can k h1 h2 (fun _=>hkd))
    obtain⟨v1,v2⟩:=g2.give k ho' hkp (fun _=>hkd)
    have hrd:(yN k b).2.reads=b.reads++[QU k]:=by
     obtain⟨_,s1⟩:=g2.s
     obtain⟨_,s2⟩:=v2.s
     rw[s1.reads,s2.reads];simp
    refine KX (by simp) (by simp;omega) (by simp;omega) (by simp) (by simp) ?_
    simp (disch:=omega) [zz]
    refine qD (R:=fun z H'=>z=.av (.int .i64) (.i .i64 (yN k b).1)/\KP X (yN k b).2 H') H3 (bdH B O Y T w (W++[i]) y2) List.perm_append_comm rfl (by simp[qI]) (by simp) ?_ ?_
    ·rw[hbe3];simpa[TV.er,AV.er,hke]using hgv
    rintro z H5 ⟨rfl,hB5⟩ _
    refine⟨_,HSub.refl _,?_⟩
    simp (disch:=omega) [zz]
    have hkl:(kn++[k]).length<=500:=by
     have:=v2.rl
     obtain⟨_,s2⟩:=v2.s
     rw[s2.reads]at this;simpa using this
    refine hN _ ⟨kn++[k],(yN k b).2,y2,H5⟩ ?_ ⟨hB5,v2,g3.snoc ho' c2,e1,fun j h=>e2 j (g5 j h),g62,g72.step c2 hmk2⟩ (by simp at hkl |-;omega)
    unfold zql
    simp only[hrd,List.length_append,List.length_singleton,List.map_append,List.map_cons,List.map_nil]
    apply Le.of<;>simp[zA,qF,qJ]<;>try omega
    all_goals (intro j;by_cases hj:j=85<;>simp[hj])
   ·rw[c1]
    simp (disch:=omega) [zz]
    refine hE _ _ (by simp) ?_
    simp (disch:=omega) [zz,pQ,WZ,n1,n2,n3,n4,n5,n6,m1,m2,m3,m4,m5,m6,zaB i _ y2.ov hni2,za6 i W hW,jC,Tryz.f26]
    have hdone:=e1.done y2.wt (fun _ _=>rfl) (fun h=>by
     exfalso
     rcases vJ (qL w) i with⟨h1,_⟩|⟨h1,_⟩
     ·rw[c2]at h1;simp at h1
     ·rw[h]at h1;cases h1) e1.wt (g72.stop c5 hmk2)
    exact⟨by kernel_rfl,by rw[c2,DI];rfl,_,hdone,hkeep2,⟨_,List.mem_append_right _ (List.mem_singleton.2 rfl)⟩,g62.done _ _,YV _,by rw[zjK,c2],rfl⟩
   ·rw[c1]
    simp (disch:=omega) [zz,WZ,n1,n2,n3,n4,n5,n6,m1,m2,m3,m4,m5,m6,ziL]
    refine hE _ _ (by simp) ?_
    simp (disch:=omega) [zz,pQ,WZ,n1,n2,n3,n4,n5,n6,m1,m2,m3,m4,m5,m6,zaB i _ y2.ov hni2,za6 i W hW,jC,Tryz.f26]
    have hdone:=e1.done (zcq i b.asks y2.wt) (fun j hj=>by rw[dS,if_neg hj]) (fun _=>by
     rw[dS,if_pos rfl,c4]
     refine⟨rfl,?_⟩
     cases hm:(qL w).who b.asks with
     | none=>unfold J9 at c1;rw[hm]at c1;simp at c1
     | some m=>exact⟨m,rfl,(e3 m hm).symm⟩) (fun q hq=>by
     rcases zfu hq with h|h
     ·exact .inr (by rw[h];simp)
     ·exact e1.wt q h) (g72.stop c5 hmk2)
    exact⟨by kernel_rfl,by rw[c2,DI];rfl,_,hdone,hkeep2,⟨_,List.mem_append_right _ (List.mem_singleton.2 rfl)⟩,g62.done _ _,YV _,by rw[zjK,c2],rfl⟩
theorem zd8 (B O Y T:Nat) (w:qQ) (hw:gA w):∀(m:Nat) (W:List Nat) (i:Nat) (x:BdV),w.acts.length-W.length<=m->WP (qL w) w.acts.length W x->i<w.acts.length->i∉W->zhS (qL w) W i->BrC B O Y T w W i x
 | 0,W,i,x,hm,hx,hi,hW,hp=>by have:=hx.room hi hW;omega
 | m+1,W,i,x,hm,hx,hi,hW,hp=>zkL B O Y T w hw W i x hx hi hW hp fun j y hy hj hjW hpj=>zd8 B O Y T w hw m (W++[i]) j y (by simp;omega) hy hj hjW hpj
theorem zaI (B O Y T:Nat) (w:qQ) (hw:gA w) (i:Nat) (x:BdV) (hx:WP (qL w) w.acts.length [] x) (hi:i<w.acts.length):BrC B O Y T w [] i x :=
 zd8 B O Y T w hw _ [] i x (Nat.le_refl _) hx hi (by simp) fun w hw=>by simp at hw
noncomputable abbrev Q7:TyD:=q9 Tryz.prog 26
theorem WP.none (S:kV) (n:Nat):WP S n [] ⟨[],[]⟩ where
 fin:=fun p h=>by simp at h
 nd:=by simp
 st:=fun p h=>by simp at h
 wnd:=by simp
 wn:=fun p h=>by simp at h
 wt:=fun p h=>by simp at h
 cl:=fun p h=>by simp at h
abbrev zsJ:Cfg:=⟨fun n=>n==8,fun _=>false⟩
theorem dB (w:qQ):q7 Tryz.prog 20 [.av Q7 (j7 w)] [] fun r H'=>∃B O Y T,r=.av .ptr (.ptr B BdT [])/\H'=bdH B O Y T w [] ⟨[],[]⟩:=by
 have hea:=ZY w.acts
 have hef:=jJ w.files
 refine q7.sub (R:=fun r H'=>∃B O Y T,r=.av .ptr (.ptr B BdT [])/\H'=[(B,bdO w O Y T),(T,.map 3 9 []),(Y,.map 3 4 []),(O,.map 3 46 [])]) ?_ (fun r H' ⟨B,O,Y,T,h1,h2⟩ _=>⟨bdH B O Y T w [] ⟨[],[]⟩,HSub.of_perm (by rw[h2];exact List.Perm.cons _ (List.reverse_perm [_,_,_])),B,O,Y,T,h1,rfl⟩)
 refine zov Tryz.func20 zsJ fun imm0 w0=>?_
 (simp (maxSteps:=2000000) (disch:=first|omega|assumption) [zz,-List.reduceReplicate,j7])
 intro O Y hY T hT1 hT2 B hB1 hB2 hB3
 (simp (maxSteps:=2000000) (disch:=first|omega|assumption) [zz,-List.reduceReplicate,Tryz.f20])
 exact⟨O,Y,T,rfl,rfl,rfl,rfl⟩
noncomputable def goC:Nat->List Txt->List wD->Int × Nat
 | _,_,[]=>(0,0)
 | k,L,a::r=>if Y1 a L=0 then goC (k+1) (L++a.outs) r else(Y1 a L,k)
noncomputable def YS (l:List wD):Int × Nat:=if 500<l.length then(6,0) else goC 0 [] l
theorem zrr (L:List Txt):(obO L).er=obO L:=by simp[obO,HObj.er_map,obE,AV.er,Function.comp_def]
theorem zlf (l:List wD) (hl:∀a∈l,zkS a) (hn:l.length<=1000000000) :
  PC Tryz.prog 40 [.av (.slice 34) (jC l)] (.tup [(.int .i64,.i .i64 (YS l).1),(.int .i64,.i .i64 ((YS l).2:Nat))]):=by
 refine q7.sub (R:=fun r H'=>r=.tup [(.int .i64,.i .i64 (YS l).1),(.int .i64,.i .i64 ((YS l).2:Nat))]) ?_ (fun r H' hr _=>⟨[],HSub.of_sub (List.nil_sublist _),hr,rfl⟩)
 obtain⟨V,hV⟩:∃V,V=YS l:=⟨_,rfl⟩
 rw[<-hV]
 unfold YS at hV
 refine zov Tryz.func40 cf0 fun imm0 w0=>?_
 by_cases h5:500<l.length
 ·have h5':(500:Int)<l.length:=by omega
  rw[if_pos h5]at hV
  subst hV
  simp (disch:=omega) [zz,jC,h5',Tryz.f40]
 have h5':¬(500:Int)<l.length:=by omega
 rw[if_neg h5]at hV
 simp (disch:=omega) [zz,jC,h5']
 intro M
 refine AT.loop' (α:=Nat) (fun k=>St.of [(4,.av (.map 9 4) (.map (some M))),(12,.av (.slice 34) (jC l)),(13,.av (.int .i64) (.i .i64 l.length)),(14,.av (.int .i64) (.i .i64 k))] [] (fun _=>0) [(M,obO ((l.take k).flatMap (·.outs)))])
  (fun k=>k<=l.length/\V=goC k ((l.take k).flatMap (·.outs)) (l.drop k)) (fun k=>l.length-k) 0 ?_ ?_ ?_
 ·apply Le.of<;>simp[zA,qF,qJ,jC,obO,obE]<;>try omega
 ·exact⟨by omega,by simpa using hV⟩
 rintro k ⟨hk,hgo⟩ KL hN hE
 refine zrd cf0 ?_
 by_cases hlt:k<l.length
 ·have hlt':(k:Int)<l.length:=by omega
  have hg:=jY zI l k hlt
  have hac:=hl _ (List.getElem_mem hlt)
  have htk:l.take (k+1)=l.take k++[l[k]]:=List.take_succ_eq_append_getElem hlt
  rw[List.drop_eq_getElem_cons hlt]at hgo
  obtain⟨a,ha⟩:∃a,a=l[k]:=⟨_,rfl⟩
  rw[<-ha]at hg hac htk hgo
  obtain⟨L,hL⟩:∃L,L=(l.take k).flatMap (·.outs):=⟨_,rfl⟩
  have hL2:(l.take (k+1)).flatMap (·.outs)=L++a.outs:=by rw[htk,hL];simp
  rw[<-hL]at hgo |-
  have hae:=uA a
  have hlk:=zlS a hac M L
  have hoe:=zrr L
  simp (disch:=omega) [zz,hlt',hg,jC]
  (repeat with_reducible refine om ?_)
  refine qD (R:=fun r H'=>r=.av (.int .i64) (.i .i64 (Y1 a L))/\∃L2,H'=[(M,obO L2)]/\(Y1 a L=0->L2=L++a.outs)) [(M,obO L)] [] (by simp) rfl (by simp[qI]) (by simp) ?_ ?_
  ·simpa[TV.er,AV.er,hae,q8.er_cons,q8.er_nil,hoe]using hlk
  rintro r H' ⟨rfl,L2,rfl,h2⟩ _
  refine⟨[(M,obO L2)],by simpa using HSub.refl _,?_⟩
  unfold goC at hgo
  by_cases h0:Y1 a L=0
  ·rw[if_pos h0]at hgo
   rw[h2 h0]
   simp (disch:=omega) [zz,h0]
   (repeat with_reducible refine om ?_)
   refine hN _ (k+1) ?_ ⟨by omega,by rw[hL2];exact hgo⟩ (by omega)
   apply Le.of<;>simp[zA,qF,qJ,hL2,jC]<;>try omega
  ·rw[if_neg h0]at hgo
   simp (disch:=omega) [zz,h0]
   (repeat with_reducible refine om ?_)
   refine hE _ _ (by simp) ?_
   simp (disch:=omega) [zz,Tryz.f40,hgo]
 ·have hlt':¬(k:Int)<l.length:=by omega
  rw[List.drop_of_length_le (by omega)]at hgo
  simp (disch:=omega) [zz,hlt',jC]
  refine hE _ _ (by simp) ?_
  simp (disch:=omega) [zz,Tryz.f40,hgo,goC]
noncomputable def QP (w:qQ):Int :=
 if YE w.files≠0 then YE w.files else if (YS w.acts).1≠0 then(YS w.acts).1 else
 if 1000<w.wants.length then 6 else if w.wants.all jQ=true then 0 else 1
structure WkC (w:qQ):Prop where
 f:∀f∈w.files,f.path.length<=2000000
 fn:w.files.length<=1000000000
 a:∀a∈w.acts,zkS a
 an:w.acts.length<=1000000000
 p:∀p∈w.wants,p.length<=2000000
 wn:w.wants.length<=1000000000
theorem DZ (w:qQ) (hw:WkC w):PC Tryz.prog 19 [.av Q7 (j7 w)] (.av (.int .i64) (.i .i64 (QP w))):=by
 have hf:=zl5 w.files hw.fn (fun f hf=>by have:=hw.f f hf;omega)
 have ha:=zlf w.acts hw.a hw.an
 have hea:=ZY w.acts
 have hef:=jJ w.files
 have hwn:=hw.wn
 obtain⟨V,hV⟩:∃V,V=QP w:=⟨_,rfl⟩
 rw[<-hV]
 unfold QP at hV
 refine zow Tryz.func19 cf0 fun imm0 w0=>?_
 simp (disch:=omega) [zz,j7]
 refine qG hf rfl rfl (by simp) (by simp[qM,TV.er,AV.er,hef]) ?_
 by_cases h1:YE w.files=0
 rotate_left
 ·rw[if_pos h1]at hV
  simp (disch:=omega) [zz,h1,Tryz.f19,hV]
 rw[if_neg (by simp[h1])]at hV
 simp (disch:=omega) [zz,h1]
 refine qG ha rfl rfl (by simp) (by simp[qM,TV.er,AV.er,hea]) ?_
 by_cases h2:(YS w.acts).1=0
 rotate_left
 ·rw[if_pos h2]at hV
  simp (disch:=omega) [zz,h2,Tryz.f19,hV]
 rw[if_neg (by simp[h2])]at hV
 by_cases h3:1000<w.wants.length
 ·have h3':(1000:Int)<w.wants.length:=by omega
  rw[if_pos h3]at hV
  simp (disch:=omega) [zz,h2,h3',Tryz.f19,hV]
 have h3':¬(1000:Int)<w.wants.length:=by omega
 rw[if_neg h3]at hV
 simp (disch:=omega) [zz,h2,h3']
 refine AT.loop' (α:=Nat) (fun k=>St.of [(28,.av (.slice 9) (.sl .no (strs w.wants))),(29,.av (.int .i64) (.i .i64 w.wants.length)),(30,.av (.int .i64) (.i .i64 k))] [] (fun _=>0) [])
  (fun k=>k<=w.wants.length/\∀j (hj:j<w.wants.length),j<k->jQ w.wants[j]=true) (fun k=>w.wants.length-k) 0 ?_ ?_ ?_
 ·apply Le.of<;>simp[zA,qF,qJ]<;>try omega
 ·exact⟨by omega,fun j hj h=>by omega⟩
 rintro k ⟨hk,hall⟩ KL hN hE
 refine zrd cf0 ?_
 by_cases hlt:k<w.wants.length
 ·have hlt':(k:Int)<w.wants.length:=by omega
  have hg:=jY AV.s w.wants k hlt
  have hm:=XJ w.wants[k] (by have:=hw.p _ (List.getElem_mem hlt);omega)
  obtain⟨p,hp⟩:∃p,p=w.wants[k]:=⟨_,rfl⟩
  rw[<-hp]at hg hm
  simp (disch:=omega) [zz,hlt',hg,strs]
  (repeat with_reducible refine om ?_)
  refine zcv hm ?_
  cases hmv:jQ p with
  | true =>
   simp (disch:=omega) [zz]
   (repeat with_reducible refine om ?_)
   refine hN _ (k+1) ?_ ⟨by omega,fun j hj h=>?_⟩ (by omega)
   ·apply Le.of<;>simp[zA,qF,qJ,strs]<;>try omega
   ·rcases Nat.lt_or_ge j k with h1|h1
    ·exact hall j hj h1
    ·have:j=k:=by omega
     subst this;rw[<-hp];exact hmv
  | false =>
   have hno:¬w.wants.all jQ=true:=fun h=>by
    have:=List.all_eq_true.1 h p (by rw[hp];exact List.getElem_mem hlt)
    rw[hmv]at this;cases this
   rw[if_neg hno]at hV
   simp (disch:=omega) [zz]
   (repeat with_reducible refine om ?_)
   refine hE _ _ (by simp) ?_
   simp (disch:=omega) [zz,Tryz.f19,hV]
 ·have hlt':¬(k:Int)<w.wants.length:=by omega
  have hyes:w.wants.all jQ=true:=List.all_eq_true.2 fun p hp=>by
   obtain⟨j,hj,rfl⟩:=List.getElem_of_mem hp
   exact hall j hj (by omega)
  rw[if_pos hyes]at hV
  simp (disch:=omega) [zz,hlt']
  refine hE _ _ (by simp) ?_
  simp (disch:=omega) [zz,Tryz.f19,hV]
noncomputable def ofV (w:qQ) (i:Int):yH × Int :=
 if QP w≠0 then(⟨0,0,[],[]⟩,QP w) else
 if i<0\/(w.acts.length:Int)<=i then(⟨0,0,[],[]⟩,2) else(jH (qL w) i.toNat,0)
theorem zra (w:qQ) (hc:WkC w) (hk:QP w=0->gA w) (i:Int):PC Tryz.prog 13 [.av Q7 (j7 w),.av (.int .i64) (.i .i64 i)] (.tup [(q9 Tryz.prog 46,qU (ofV w i).1),(.int .i64,.i .i64 (ofV w i).2)]):=by
 refine q7.sub (R:=fun r H'=>r=.tup [(q9 Tryz.prog 46,qU (ofV w i).1),(.int .i64,.i .i64 (ofV w i).2)]) ?_ (fun r H' hr _=>⟨[],HSub.of_sub (List.nil_sublist _),hr,rfl⟩)
 obtain⟨V,hV⟩:∃V,V=ofV w i:=⟨_,rfl⟩
 rw[<-hV]
 unfold ofV at hV
 have hch:=DZ w hc
 have hew:=JW w
 have hbg:=dB w
 obtain⟨W,hW⟩:∃W,W=j7 w:=⟨_,rfl⟩
 have hW2:W=.agg [qH w.files,jC w.acts,.sl .no (strs w.wants),.b w.keep]:=hW
 rw[<-hW]at hch hew hbg
 rw[<-hW]
 refine zov Tryz.func13 cf0 fun imm0 w0=>?_
 simp (disch:=omega) [zz]
 refine qG hch rfl rfl (by simp) (by simp[qM,TV.er,hew]) ?_
 by_cases h1:QP w=0
 rotate_left
 ·rw[if_pos h1]at hV
  subst hV
  simp (disch:=omega) [zz,h1,Tryz.f13,qU,qH,zO]
 rw[if_neg (by simp[h1])]at hV
 by_cases h2:i<0
 ·rw[if_pos (.inl h2)]at hV
  subst hV
  simp (disch:=omega) [zz,h1,h2,Tryz.f13,qU,qH,zO]
 by_cases h3:(w.acts.length:Int)<=i
 ·rw[if_pos (.inr h3)]at hV
  subst hV
  simp (disch:=omega) [zz,h1,h2,hW2,jC,h3,Tryz.f13,qU,qH,zO]
 rw[if_neg (by omega)]at hV
 obtain⟨n,rfl⟩:∃n:Nat,i=n:=⟨i.toNat,by omega⟩
 have hn:n<w.acts.length:=by omega
 have hWE:W=.agg [qH w.files,.sl .no (w.acts.map zI),.sl .no (strs w.wants),.b w.keep]:=hW
 rw[Int.toNat_natCast]at hV
 simp (disch:=omega) [zz,h1,h2,hWE,h3]
 refine qD (R:=fun r H'=>∃B O Y T,r=.av .ptr (.ptr B BdT [])/\H'=bdH B O Y T w [] ⟨[],[]⟩) [] [] (by simp) rfl (by simp[qI]) (by simp) ?_ ?_
 ·rw[<-hWE]
  simpa[TV.er,hew,q8.er_nil]using hbg
 rintro r H ⟨B,O,Y,T,rfl,rfl⟩ _
 refine⟨bdH B O Y T w [] ⟨[],[]⟩,by simpa using HSub.refl _,?_⟩
 have hHe:=YW B O Y T w [] ⟨[],[]⟩
 have hbr:=zaI B O Y T w (hk h1) n ⟨[],[]⟩ (WP.none _ _) hn
 unfold BrC at hbr
 have heo:=wM (jH (qL w) n)
 simp (disch:=omega) [zz]
 refine qD (R:=fun r H'=>r=.av (q9 Tryz.prog 46) (qU (jH (qL w) n))) (bdH B O Y T w [] ⟨[],[]⟩) [] (by simp) rfl (by simp[qI]) (by simp) ?_ ?_
 ·rw[hHe]
  have hb2:=hbr.mono fun r H' h=>(by obtain⟨_,h,_⟩:=h;exact h:r=.av (q9 Tryz.prog 46) (qU (jH (qL w) n)))
  simpa[TV.er,AV.er]using hb2
 rintro r H rfl _
 refine⟨[],HSub.of_sub (List.nil_sublist _),?_⟩
 subst hV
 simp (disch:=omega) [zz,Tryz.f13,heo]
theorem d7 {fs:List jM} (h:YE fs=0):fs.length<=1024/\∀j (hj:j<fs.length),QD fs j hj=0:=by
 have h0:¬1024<fs.length:=fun h0=>by simp_all[YE]
 refine⟨by omega,fun j=>?_⟩
 induction j using Nat.strongRecOn with
 | ind j ih =>
  grind [zdZ]
theorem zi7 {fs:List jM} {j:Nat} {hj:j<fs.length} (h:QD fs j hj=0):fs[j].data.length<=65536:=by
 grind [QD]
theorem zkM {fs:List jM} (h:YE fs=0):C0 fs=false:=by
 obtain⟨_,h2⟩:=d7 h
 unfold C0
 rw[List.any_eq_false]
 intro f hf
 obtain⟨j,hj,rfl⟩:=List.getElem_of_mem hf
 simp_all[zi7]
theorem zgz:∀ {l:List wD} {k:Nat} {L:List Txt},(goC k L l).1=0->∀a∈l,(KT a.tool).1=0
 | [],_,_,_,a,ha=>by simp at ha
 | b::l,k,L,h,a,ha=>by
  unfold goC at h
  by_cases h0:Y1 b L=0
  ·rw[if_pos h0]at h
   rcases List.mem_cons.1 ha with rfl|ha
   ·unfold Y1 at h0
    omega
   ·exact zgz h a ha
  simp_all
theorem zhe {t:Txt} (h:(KT t).1=0):∃cs,jB t=.ok cs:=by
 unfold KT at h
 cases hc:jB t with
 | ok cs=>simp
 | error e =>
  grind [X7]
theorem WkC.ok {w:qQ} (hc:WkC w) (h:QP w=0):gA w:=by
 unfold QP at h
 by_cases h1:YE w.files=0
 rotate_left
 ·omega
 rw[if_neg (by simp[h1])]at h
 by_cases h2:(YS w.acts).1=0
 rotate_left
 ·omega
 have hn:¬500<w.acts.length:=fun hn=>by simp_all[YS]
 unfold YS at h2
 rw[if_neg hn]at h2
 obtain⟨hl,_⟩:=d7 h1
 exact⟨by omega,fun a ha=>⟨(hc.a a ha).b,zhe (zgz h2 a ha),(hc.a a ha).o⟩,by omega,zkM h1⟩
theorem zjr (w:qQ) (hc:WkC w) (i:Int):PC Tryz.prog 13 [.av Q7 (j7 w),.av (.int .i64) (.i .i64 i)] (.tup [(q9 Tryz.prog 46,qU (ofV w i).1),(.int .i64,.i .i64 (ofV w i).2)]) :=
 zra w hc hc.ok i
end Go.Proofs.YtfkcpballfhddaaGreatDoor
end
section
set_option maxRecDepth 100000
namespace Go.Proofs.YtfkcpballfhddaaGreatDoor
open Go Go.Ab
open Classical
variable [Sel] [SelPow] [SelMax]
theorem DX:∀ {L l:List Txt},xI L l=false->(∀p∈l,p∉L)/\l.Nodup
 | _,[],_=>⟨by simp,by simp⟩
 | L,p::r,h=>by
  unfold xI at h
  split at h
  ·cases h
  ·rename_i hp
   obtain⟨h1,h2⟩:=DX h
   grind
theorem XR {a:wD} {L:List Txt} (h:Y1 a L=0):(KT a.tool).1=0/\a.outs≠[]/\(∀p∈a.outs,kN p JY=true)/\(∀p∈a.ins,jQ p=true)/\(∀p∈a.asks,xD p=true)/\xI L a.outs=false:=by
 unfold Y1 at h
 grind
theorem znL:∀ {l:List wD} {k:Nat} {L:List Txt},(goC k L l).1=0->∀j (h:j<l.length),Y1 l[j] (L++(l.take j).flatMap (·.outs))=0
 | [],_,_,_,j,h=>by simp at h
 | a::l,k,L,h0,j,h=>by
  unfold goC at h0
  split at h0
  ·rename_i h1
   cases j with
   | zero=>simpa using h1
   | succ j =>
    have:=znL h0 j (by simpa using h)
    simpa[List.append_assoc]using this
  ·rename_i h1
   exact absurd h0 h1
structure WkL (w:qQ):Prop where
 c0:YE w.files=0
 n:w.acts.length<=500
 one:∀j (h:j<w.acts.length),Y1 w.acts[j] ((w.acts.take j).flatMap (·.outs))=0
 wl:w.wants.length<=1000
 wm:∀p∈w.wants,jQ p=true
theorem d8 {w:qQ} (h:QP w=0):WkL w:=by
 unfold QP at h
 by_cases h1:YE w.files=0
 rotate_left
 ·omega
 rw[if_neg (by simp[h1])]at h
 by_cases h2:(YS w.acts).1=0
 rotate_left
 ·omega
 rw[if_neg (by simp[h2])]at h
 unfold YS at h2
 by_cases h3:500<w.acts.length
 ·simp_all
 rw[if_neg h3]at h2
 split at h
 ·cases h
 rename_i h4
 split at h
 ·rename_i h5
  exact⟨h1,by omega,fun j hj=>by simpa using znL h2 j hj,by omega,by simp_all⟩
 ·cases h
theorem WkL.chk {w:qQ} (h:WkL w):QP w=0:=by
 have hg:∀(l:List wD) (k:Nat) (L:List Txt),(∀j (h:j<l.length),Y1 l[j] (L++(l.take j).flatMap (·.outs))=0)->(goC k L l).1=0:=by
  intro l
  induction l with
  | nil=>intro k L _;rfl
  | cons a l ih =>
   intro k L h
   unfold goC
   rw[if_pos (by have h0:=h 0 (by simp);simp_all)]
   exact ih _ _ fun j hj=>by
    have:=h (j+1) (by simp_all)
    simp_all
 have h2:(YS w.acts).1=0:=by
  unfold YS
  rw[if_neg (by have:=h.n;omega)]
  exact hg _ _ _ fun j hj=>by simpa using h.one j hj
 unfold QP
 rw[if_neg (by simp[h.c0]),if_neg (by simp[h2]),if_neg (by have:=h.wl;omega),if_pos (by simpa using h.wm)]
section
variable {w:qQ} (h:WkL w)
include h
theorem WkL.lt {i j:Nat} (hj:j<w.acts.length) (hij:i<j) {p:Txt} (h1:p∈(w.acts[i]'(by omega)).outs):p∉w.acts[j].outs:=fun h2=>by
 have h3:=(DX (XR (h.one j hj)).2.2.2.2.2).1 p h2
 exact h3 (List.mem_flatMap.2 ⟨_,List.mem_take_iff_getElem.2 ⟨i,by omega,rfl⟩,h1⟩)
theorem WkL.uniq {i j:Nat} (hi:i<w.acts.length) (hj:j<w.acts.length) {p:Txt} (h1:p∈w.acts[i].outs) (h2:p∈w.acts[j].outs):i=j:=by
 rcases Nat.lt_trichotomy i j with hij|hij|hij
 ·exact absurd h2 (h.lt hj hij h1)
 ·exact hij
 ·exact absurd h1 (h.lt hi hij h2)
theorem WkL.maker {i:Nat} (hi:i<w.acts.length) {p:Txt} (hp:p∈w.acts[i].outs):jK w.acts p=some i:=by
 cases hm:jK w.acts p with
 | none =>
  simp_all[jK]
 | some j =>
  obtain⟨hj,h2⟩:=Q6 hm
  rw[h.uniq hj hi h2 hp]
theorem WkL.none {p:Txt} (hm:jK w.acts p=none):∀a∈w.acts,p∉a.outs:=fun a ha hp=>by
 obtain⟨i,hi,rfl⟩:=List.getElem_of_mem ha
 rw[h.maker hi hp]at hm
 cases hm
theorem WkL.apart {i:Nat} (hi:i<w.acts.length) {p:Txt} (hp:p∈w.acts[i].outs):∀f∈w.files,f.path≠p:=fun f hf e=>by
 obtain⟨j,hj,rfl⟩:=List.getElem_of_mem hf
 have h1:=(d7 h.c0).2 j hj
 have h2:=(XR (h.one i hi)).2.2.1 p hp
 simp_all[QD]
end
theorem zqf {w:qQ} (h:WkL w) {i:Nat} (hi:i<w.acts.length) {p:Txt} (hp:p∈w.acts[i].outs):jQ p=true:=by
 have h1:=(XR (h.one i hi)).2.2.1 p hp
 simp_all[kN]
end Go.Proofs.YtfkcpballfhddaaGreatDoor
end
section
set_option maxRecDepth 100000
namespace Go.Proofs.YtfkcpballfhddaaGreatDoor
open Go Go.Ab
open Classical
variable [Sel] [SelPow] [SelMax]
abbrev ztb:Cfg:=⟨fun _=>false,fun n=>n==5⟩
theorem zlv (l:List Txt) (hl:l.length<=1000000):q7 Tryz.prog 21 [.av (.slice 9) (.sl .no (strs l))] [] fun r H'=>∃v,r=.av (.slice 9) v/\KM l v H':=by
 refine q7.sub (R:=fun r H'=>∃v H2,HSub H2 H'/\r=.av (.slice 9) v/\KM l v H2) ?_ fun r H' ⟨v,H2,h1,h2,h3⟩ _=>⟨H2,h1,v,h2,h3⟩
 have hse:AV.ers (strs l)=strs l:=by simp[strs,AV.ers_eq,Function.comp_def,AV.er]
 have hsl:=zV l
 refine zov Tryz.func21 ztb fun imm0 w0=>?_
 simp (disch:=omega) [zz]
 refine⟨fun h=>?_,fun b=>⟨⟨by omega,by omega⟩,fun h0=>?_,fun h0 b' cap' h1 h2=>?_⟩⟩
 ·have:l=[]:=by simpa[strs]using h
  subst this
  simp (disch:=omega) [zz,Tryz.f21]
  exact⟨_,[],HSub.refl _,rfl,.inl ⟨rfl,rfl,rfl⟩⟩
 ·have:l=[]:=by simpa[strs]using h0
  subst this
  simp (disch:=omega) [zz,Tryz.f21]
  exact⟨_,_,HSub.refl _,rfl,.inr ⟨b,0,[],JK.nil,rfl,rfl,rfl⟩⟩
 ·simp (disch:=omega) [zz,Tryz.f21]
  have hz:JK (strs l++List.replicate (cap'-l.length) (AV.s [])):=JK.app (JK.strs l) (JK.rep rfl _)
  refine⟨_,[(b',.var (.arr cap' 9) (.agg (strs l++List.replicate (cap'-l.length) (AV.s []))))],HSub.of_sub ?_,rfl,.inr ⟨b',cap',_,JK.rep rfl _,rfl,by simp;omega,rfl⟩⟩
  rw[show AV.erks (strs l++List.replicate (cap'-l.length) (AV.s []))=_ from hz]
  exact(List.nil_sublist _).cons_cons _
end Go.Proofs.YtfkcpballfhddaaGreatDoor
end
section
set_option maxRecDepth 100000
namespace Go.Proofs.YtfkcpballfhddaaGreatDoor
open Go Go.Ab
open Classical
variable [Sel]
end Go.Proofs.YtfkcpballfhddaaGreatDoor
end
section
set_option maxRecDepth 100000
namespace Go.Proofs.YtfkcpballfhddaaGreatDoor
open Go Go.Ab
open Classical
variable [Sel]
theorem ziq (a b:List xE) (ha:a.length<=9223372036854775807) (hb:b.length<=9223372036854775807) :
  PC Tryz.prog 54 [.av (.slice 53) (zO a),.av (.slice 53) (zO b)] (.av .bool (.b (decide (a=b)))):=by
 refine zow Tryz.func54 cf0 fun imm0 w0=>?_
 by_cases hab:a.length=b.length
 rotate_left
 ·have h1:¬(a.length:Int)=b.length:=by omega
  have h2:¬a=b:=fun e=>hab (by rw[e])
  simp (disch:=omega) [zz,h1,zO,Tryz.f54,h2]
 have h1:(a.length:Int)=b.length:=by omega
 simp (disch:=omega) [zz,h1,zO]
 refine AT.loop' (α:=Nat) (fun k=>St.of [(0,.av (.slice 53) (zO a)),(1,.av (.slice 53) (zO b)),(12,.av (.int .i64) (.i .i64 b.length)),(13,.av (.int .i64) (.i .i64 k))] [] (fun _=>0) [])
  (fun k=>k<=b.length/\∀i,i<k->∀(h1:i<a.length) (h2:i<b.length),a[i]=b[i]) (fun k=>b.length-k) 0 ?_ ?_ ?_
 ·apply Le.of<;>simp[le9,zO]<;>try omega
 ·exact⟨by omega,fun i h=>by omega⟩
 rintro k ⟨hk,hall⟩ KL hN hE
 refine zrd cf0 ?_
 by_cases hlt:k<b.length
 ·have hlt':(k:Int)<b.length:=by omega
  have hga:=jY zG a k (by omega)
  have hgb:=jY zG b k hlt
  have hlta:(k:Int)<a.length:=by omega
  by_cases hc:a[k]=b[k]
  ·simp (disch:=omega) [zz,hlt',hlta,hga,hgb,zO,xV,hc]
   (repeat with_reducible refine om ?_)
   refine hN _ (k+1) ?_ ⟨by omega,fun i hi h1 h2=>?_⟩ (by omega)
   ·apply Le.of<;>simp[le9,zO]<;>try omega
   ·rcases Nat.lt_or_ge i k with h|h
    ·exact hall i h h1 h2
    ·have:i=k:=by omega
     subst this;exact hc
  ·have hne:¬a=b:=fun e=>hc (by subst e;rfl)
   simp (disch:=omega) [zz,hlt',hlta,hga,hgb,zO,xV,hc]
   (repeat with_reducible refine om ?_)
   refine hE _ _ (by simp) ?_
   simp (disch:=omega) [zz,Tryz.f54,hne]
 ·have hlt':¬(k:Int)<b.length:=by omega
  simp (disch:=omega) [zz,hlt',zO]
  refine hE _ _ (by simp) ?_
  have:a=b:=x4 hab fun i h1 h2=>hall i (by omega) h1 h2
  simp (disch:=omega) [zz,Tryz.f54,this]
end Go.Proofs.YtfkcpballfhddaaGreatDoor
end
section
set_option maxRecDepth 100000
namespace Go.Proofs.YtfkcpballfhddaaGreatDoor
open Go Go.Ab
open Classical
variable [Sel] [SelPow] [SelMax]
theorem zaz (a b:List jM) (ha:a.length<=9223372036854775807) (hb:b.length<=9223372036854775807) :
  PC Tryz.prog 34 [.av (.slice 57) (qH a),.av (.slice 57) (qH b)] (.av .bool (.b (decide (a=b)))):=by
 refine zow Tryz.func34 cf0 fun imm0 w0=>?_
 by_cases hab:a.length=b.length
 rotate_left
 ·have h1:¬(a.length:Int)=b.length:=by omega
  have h2:¬a=b:=fun e=>hab (by rw[e])
  simp (disch:=omega) [zz,h1,qH,Tryz.f34,h2]
 have h1:(a.length:Int)=b.length:=by omega
 simp (disch:=omega) [zz,h1,qH]
 refine AT.loop' (α:=Nat) (fun k=>St.of [(0,.av (.slice 57) (qH a)),(1,.av (.slice 57) (qH b)),(12,.av (.int .i64) (.i .i64 b.length)),(13,.av (.int .i64) (.i .i64 k))] [] (fun _=>0) [])
  (fun k=>k<=b.length/\∀i,i<k->∀(h1:i<a.length) (h2:i<b.length),a[i]=b[i]) (fun k=>b.length-k) 0 ?_ ?_ ?_
 ·apply Le.of<;>simp[le9,qH]<;>try omega
 ·exact⟨by omega,fun i h=>by omega⟩
 rintro k ⟨hk,hall⟩ KL hN hE
 refine zrd cf0 ?_
 by_cases hlt:k<b.length
 ·have hlt':(k:Int)<b.length:=by omega
  have hga:=jY qS a k (by omega)
  have hgb:=jY qS b k hlt
  have hlta:(k:Int)<a.length:=by omega
  by_cases hc:a[k]=b[k]
  ·simp (disch:=omega) [zz,hlt',hlta,hga,hgb,qH,X0,hc]
   (repeat with_reducible refine om ?_)
   refine hN _ (k+1) ?_ ⟨by omega,fun i hi h1 h2=>?_⟩ (by omega)
   ·apply Le.of<;>simp[le9,qH]<;>try omega
   ·rcases Nat.lt_or_ge i k with h|h
    ·exact hall i h h1 h2
    ·have:i=k:=by omega
     subst this;exact hc
  ·have hne:¬a=b:=fun e=>hc (by subst e;rfl)
   simp (disch:=omega) [zz,hlt',hlta,hga,hgb,qH,X0,hc]
   (repeat with_reducible refine om ?_)
   refine hE _ _ (by simp) ?_
   simp (disch:=omega) [zz,Tryz.f34,hne]
 ·have hlt':¬(k:Int)<b.length:=by omega
  simp (disch:=omega) [zz,hlt',qH]
  refine hE _ _ (by simp) ?_
  have:a=b:=x4 hab fun i h1 h2=>hall i (by omega) h1 h2
  simp (disch:=omega) [zz,Tryz.f34,this]
theorem zoc {a b:yH}:a=b<->a.kind=b.kind/\a.why=b.why/\a.outs=b.outs/\a.reads=b.reads:=by
 cases a;cases b;simp
def zom (o:yH):Prop:=o.outs.length<=9223372036854775807/\o.reads.length<=9223372036854775807
theorem zoj (a b:yH) (ha:zom a) (hb:zom b):PC Tryz.prog 33 [.av (q9 Tryz.prog 46) (qU a),.av (q9 Tryz.prog 46) (qU b)] (.av .bool (.b (decide (a=b)))):=by
 have hf:=zaz a.outs b.outs ha.1 hb.1
 have hr:=ziq a.reads b.reads ha.2 hb.2
 have e1:=jJ a.outs
 have e2:=jJ b.outs
 have e3:=WU a.reads
 have e4:=WU b.reads
 have hd:=zoc (a:=a) (b:=b)
 refine zow Tryz.func33 cf0 fun imm0 w0=>?_
 by_cases h1:a.kind=b.kind
 rotate_left
 ·have hne:¬a=b:=fun e=>h1 (by rw[e])
  simp (disch:=omega) [zz,qU,h1,hne,Tryz.f33]
 by_cases h2:a.why=b.why
 rotate_left
 ·have hne:¬a=b:=fun e=>h2 (by rw[e])
  simp (disch:=omega) [zz,qU,h1,h2,hne,Tryz.f33]
 simp (disch:=omega) [zz,qU,h1,h2]
 refine qG hf rfl rfl (by simp) (by simp[qM,TV.er,AV.er,e1,e2]) ?_
 by_cases h3:a.outs=b.outs
 rotate_left
 ·have hne:¬a=b:=fun e=>h3 (by rw[e])
  simp (disch:=omega) [zz,h3,hne,Tryz.f33]
 simp (disch:=omega) [zz,h3]
 refine qG hr rfl rfl (by simp) (by simp[qM,TV.er,AV.er,e3,e4]) ?_
 by_cases h4:a.reads=b.reads
 ·have he:a=b:=hd.2 ⟨h1,h2,h3,h4⟩
  simp (disch:=omega) [zz,h4,he,Tryz.f33]
 ·have hne:¬a=b:=fun e=>h4 (by rw[e])
  simp (disch:=omega) [zz,h4,hne,Tryz.f33]
structure ztL where
 outs:List yH
 ran:List Nat
 files:List jM
def yP (l:List yH):AV:=.sl .no (l.map qU)
theorem zaQ (l:List yH):(yP l).er=yP l:=by simp[yP,AV.er,AV.ers_eq,Function.comp_def]
theorem zmQ {a b:List yH} (hl:a.length=b.length) (h:∀k (h1:k<a.length) (h2:k<b.length),a[k]=b[k]):a=b :=
 List.ext_getElem hl h
theorem zkT (a b:List yH) (ha:a.length<=9223372036854775807) (hb:b.length<=9223372036854775807) (hda:∀o∈a,zom o) (hdb:∀o∈b,zom o) :
  PC Tryz.prog 32 [.av (.slice 46) (yP a),.av (.slice 46) (yP b),.av .func (.fn 33 [])] (.av .bool (.b (decide (a=b)))):=by
 have he1:yP a=.sl .no (a.map qU):=rfl
 have he2:yP b=.sl .no (b.map qU):=rfl
 rw[he1,he2]
 refine zow Tryz.func32 cf0 fun imm0 w0=>?_
 by_cases hn:a.length=b.length
 rotate_left
 ·have hn':¬(a.length:Int)=b.length:=by omega
  have hne:¬a=b:=fun e=>hn (by rw[e])
  simp (disch:=omega) [zz,hn',hn,hne,Tryz.f32]
 have hn':(a.length:Int)=b.length:=by omega
 simp (disch:=omega) [zz,hn',hn]
 refine AT.loop' (α:=Nat) (fun k=>St.of [(1,.av (.slice 46) (.sl .no (b.map qU))),(2,.av .func (.fn 33 [])),(15,.av (.slice 46) (.sl .no (a.map qU))),(16,.av (.int .i64) (.i .i64 b.length)),(17,.av (.int .i64) (.i .i64 k))] [] (fun _=>0) [])
  (fun k=>k<=b.length/\∀j (h1:j<a.length) (h2:j<b.length),j<k->a[j]=b[j]) (fun k=>b.length-k) 0 ?_ ?_ ?_
 ·apply Le.of<;>simp[zA,qF,hn]<;>try omega
 ·exact⟨by simp,fun j _ _ h=>absurd h (by omega)⟩
 rintro k ⟨hk,hp⟩ KL hN hE
 refine zrd cf0 ?_
 by_cases hlt:k<b.length
 ·have hlt':(k:Int)<b.length:=by omega
  have hlt2:k<a.length:=by omega
  have hg1:=jY qU a k hlt2
  have hg2:=jY qU b k hlt
  have hm1:=zoj a[k] b[k] (hda _ (List.getElem_mem hlt2)) (hdb _ (List.getElem_mem hlt))
  obtain⟨m,hm⟩:∃m,m=a[k]:=⟨_,rfl⟩
  obtain⟨f,hf⟩:∃f,f=b[k]:=⟨_,rfl⟩
  rw[<-hm]at hg1 hm1
  rw[<-hf]at hg2 hm1
  have hme:=wM m
  have hfe:=wM f
  obtain⟨X,hX⟩:∃X,X=qU m:=⟨_,rfl⟩
  obtain⟨Y,hY⟩:∃Y,Y=qU f:=⟨_,rfl⟩
  rw[<-hX]at hg1 hm1 hme
  rw[<-hY]at hg2 hm1 hfe
  simp (disch:=omega) [zz,hlt',hg1,hg2,hn]
  refine qG hm1 rfl rfl (by simp) (by simp[qM,TV.er,hme,hfe]) ?_
  by_cases he:m=f
  ·simp (disch:=omega) [zz,he]
   refine hN _ (k+1) ?_ ⟨by omega,fun j h1 h2 h3=>?_⟩ (by omega)
   ·apply Le.of<;>simp[zA,qF,hn]<;>try omega
   ·by_cases hj:j=k
    ·subst hj;rw[<-hm,<-hf];exact he
    ·exact hp j h1 h2 (by omega)
  ·have hne:¬a=b:=fun e=>he (by
    rw[hm,hf];simp only[e])
   simp (disch:=omega) [zz,he]
   refine hE _ _ (by simp) ?_
   simp (disch:=omega) [zz,hne,Tryz.f32]
 ·have hlt':¬(k:Int)<b.length:=by omega
  have heq:a=b:=zmQ hn fun j h1 h2=>hp j h1 h2 (by omega)
  have hdt:decide (a=b)=true:=decide_eq_true heq
  simp (disch:=omega) [zz,hlt']
  refine hE _ _ (by simp) ?_
  simp (disch:=omega) [zz,hdt,Tryz.f32]
structure zfT where
 outs:List yH
 ran:List Int
 took:List Int
 files:List jM
def wE (r:zfT):AV:=.agg [yP r.outs,.sl .no (r.ran.map (.i .i64 ·)),.sl .no (r.took.map (.i .i64 ·)),qH r.files]
structure zk9 (r:zfT):Prop where
 o:r.outs.length<=9223372036854775807
 f:r.files.length<=9223372036854775807
 d:∀o∈r.outs,zom o
noncomputable abbrev XE:TyD:=q9 Tryz.prog 38
theorem znM (a b:zfT) (ha:zk9 a) (hb:zk9 b):PC Tryz.prog 15 [.av XE (wE a),.av XE (wE b)] (.av .bool (.b (decide (a.outs=b.outs)&&decide (a.files=b.files)))):=by
 have h1:=zkT a.outs b.outs ha.o hb.o ha.d hb.d
 have h2:=zaz a.files b.files (by have:=ha.f;omega) (by have:=hb.f;omega)
 have e1:=zaQ a.outs
 have e2:=zaQ b.outs
 have e3:=jJ a.files
 have e4:=jJ b.files
 refine zow Tryz.func15 cf0 fun imm0 w0=>?_
 simp (disch:=omega) [zz,wE]
 refine qG h1 rfl rfl (by simp) (by simp[qM,TV.er,AV.er,AV.ers,e1,e2]) ?_
 by_cases h:a.outs=b.outs
 ·simp (disch:=omega) [zz,h]
  refine qG h2 rfl rfl (by simp) (by simp[qM,TV.er,AV.er,e3,e4]) ?_
  simp (disch:=omega) [zz,h,Tryz.f15]
 ·simp (disch:=omega) [zz,h,Tryz.f15]
theorem zbg {P:Program} {imm:Nat->Nat} {w:World}:∀ {xs:List (TyD × AV)} {vs:List Value},VVs P (g0 imm) w xs vs->VVs P (g0 imm) w (xs.map fun p=>(p.1,p.2.er)) vs
 | [],[],_=>trivial
 | (_,x)::_,_::_,h=>⟨⟨h.1.1,uD x _ _ h.1.2⟩,zbg h.2⟩
 | [],_::_,h=>h.elim
 | _::_,[],h=>h.elim
theorem zsC {P:Program} {imm:Nat->Nat} {w:World} {r:TV} {v:Value} (h:AR P (g0 imm) w r v):AR P (g0 imm) w r.er v:=by
 cases r with
 | av d x=>exact⟨h.1,uD x _ _ h.2⟩
 | tup l=>obtain⟨us,h1,h2⟩:=h;exact⟨us,h1,zbg h2⟩
 | _=>exact h
theorem q7.erR {P:Program} {f:FuncId} {args:List TV} {H:q8} {R:TV->q8->Prop} (h:q7 P f args H R):q7 P f args H fun r H'=>∃r0,R r0 H'/\r=r0.er:=by
 intro imm w vs h1 h2
 refine(h imm w vs h1 h2).mono ?_
 rintro e' w' ⟨v,r,imm',H',a,hR,hv,hrep,st⟩
 exact⟨v,r.er,imm',H',a,⟨r,hR,rfl⟩,zsC hv,hrep,st⟩
theorem zcU (p:Txt):∀l:List Txt,p∈kH l<->p∈l
 | []=>by simp[kH]
 | [x]=>by simp[kH]
 | x::y::r=>by
  have ih:=zcU p (y::r)
  unfold kH
  split
  ·rename_i h
   rw[ih,h];simp
  ·rw[List.mem_cons,ih,List.mem_cons (b:=x)]
theorem zkm (p:Txt) (l:List Txt):p∈kU l<->p∈l:=(JU l).mem_iff
def zea (w:qQ) (l:List Txt) (j:Nat):Prop:=∃p∈l,∃m,jK w.acts p=some m/\(j=m\/Relation.TransGen (JE (qL w)) m j)
def wT (w:qQ) (j:Nat):Prop:=zea w w.wants j
noncomputable def zgi (w:qQ) (p:Txt):Option jM:=if (J9 (qL w) [] p).2=1/\(J9 (qL w) [] p).1.is=true then some ⟨p,(J9 (qL w) [] p).1.data⟩ else none
noncomputable def G2 (w:qQ) (l:List Txt):List jM:=l.filterMap (zgi w)
theorem zhH (w:qQ) (l:List Txt) (p:Txt):G2 w (l++[p])=G2 w l++(zgi w p).toList:=by
 grind [G2]
theorem V9 (w:qQ) (l:List Txt):(G2 w l).length<=l.length:=List.length_filterMap_le _ _
noncomputable def QN (w:qQ):List Txt:=kH (kU w.wants)
theorem zhu (w:qQ) (p:Txt):p∈QN w<->p∈w.wants:=by simp[QN,zcU,zkm]
theorem uL (w:qQ):(QN w).length<=w.wants.length:=by
 grind [QN,DD,ZA]
def zh4:yH:=⟨0,0,[],[]⟩
noncomputable def kY (w:qQ):List yH:=(List.range w.acts.length).map fun i=>if wT w i then jH (qL w) i else zh4
noncomputable def CW (w:qQ) (k:Nat):List Int:=((List.range k).filter fun i=>decide (wT w i)).map fun i:Nat=>(i:Int)
theorem zki (w:qQ) (k:Nat):CW w (k+1)=CW w k++if wT w k then [(k:Int)] else []:=by
 grind [CW,List.range_succ]
theorem zlP (w:qQ) (k:Nat):(CW w k).length<=k:=by
 grind [CW]
noncomputable def k9 (w:qQ):zfT:=⟨kY w,CW w w.acts.length,[],G2 w (QN w)⟩
noncomputable def zfa (w:qQ):zfT × Int:=if QP w≠0 then(⟨[],[],[],[]⟩,QP w) else(k9 w,0)
structure BuI (w:qQ) (l:List Txt) (x:BdV):Prop where
 ok:WP (qL w) w.acts.length [] x
 mak:∀p∈l,∀j,jK w.acts p=some j->j∈x.ov.map Prod.fst
 ask:∀j∈x.ov.map Prod.fst,zea w l j
theorem BuI.start (w:qQ):BuI w [] ⟨[],[]⟩:=⟨.none _ _,fun p h=>by simp at h,fun j h=>by simp at h⟩
theorem BuI.step {w:qQ} {l:List Txt} {x x':BdV} {p:Txt} (h:BuI w l x) (h1:WP (qL w) w.acts.length [] x') (h2:∀j,j∈x.ov.map Prod.fst->j∈x'.ov.map Prod.fst)
  (h3:∀j,jK w.acts p=some j->j∈([]:List Nat)\/j∈x'.ov.map Prod.fst) (h4:zl2 (qL w) x x' p):BuI w (l++[p]) x' where
 ok:=h1
 mak:=fun q hq j hj=>by
  rcases List.mem_append.1 hq with hq|hq
  ·exact h2 j (h.mak q hq j hj)
  simp_all
 ask:=fun j hj=>by
  rcases h4 j hj with h5|⟨m,h5,h6⟩
  ·obtain⟨q,hq,m,h6⟩:=h.ask j h5
   exact⟨q,List.mem_append_left _ hq,m,h6⟩
  ·exact⟨p,List.mem_append_right _ (List.mem_singleton.2 rfl),m,h5,h6⟩
theorem BuI.trans {w:qQ} {l:List Txt} {x:BdV} (h:BuI w l x) {m j:Nat} (hj:Relation.TransGen (JE (qL w)) m j) (hm:m∈x.ov.map Prod.fst):j∈x.ov.map Prod.fst:=by
 have step:∀ {a b:Nat},a∈x.ov.map Prod.fst->JE (qL w) a b->b∈x.ov.map Prod.fst:=fun {a b} ha hb=>by
  obtain⟨p,hp,rfl⟩:=List.mem_map.1 ha
  simpa using h.ok.cl p hp b hb
 induction hj with
 | single h1=>grind
 | tail _ h1 ih=>grind
theorem BuI.iff {w:qQ} {l:List Txt} {x:BdV} (h:BuI w l x) (j:Nat):j∈x.ov.map Prod.fst<->zea w l j:=by
 refine⟨h.ask j,?_⟩
 rintro⟨p,hp,m,hm,h1⟩
 have h2:=h.mak p hp m hm
 rcases h1 with rfl|h1
 ·exact h2
 ·exact h.trans h1 h2
theorem BuI.all {w:qQ} {x:BdV} (h:BuI w (QN w) x) (j:Nat):j∈x.ov.map Prod.fst<->wT w j:=by
 rw[h.iff]
 simp[wT,zea,zhu]
theorem BuI.find {w:qQ} {x:BdV} (h:BuI w (QN w) x) (j:Nat):yK (.i .i64 (j:Int)) (ovE x.ov)=if wT w j then some (qU (jH (qL w) j)) else none:=by
 rw[zai]
 cases hf:x.ov.find? fun p=>decide (p.1=j)with
 | none =>
  have:¬wT w j:=fun ha=>by
   obtain⟨p,hp,he⟩:=List.mem_map.1 ((h.all j).2 ha)
   grind
  simp_all
 | some q =>
  have h1:q.1=j:=by grind
  have h2:=h.ok.fin q (List.mem_of_find?_eq_some hf)
  have:wT w j:=(h.all j).1 (List.mem_map.2 ⟨q,List.mem_of_find?_eq_some hf,h1⟩)
  simp_all
end Go.Proofs.YtfkcpballfhddaaGreatDoor
end
