/- A row in the heap that is let go within a function: it is a list from here on. No condition beyond each theorem's own. -/
import Derived.Test.YtcioeonlclpacaaGreatDoorAbSToSk
set_option linter.unusedSimpArgs false
set_option linter.unusedVariables false
set_option linter.unusedSectionVars false
/-! A row in the heap that is let go within a function: it is a list from here on. -/
namespace Go.Ab
open Go
open Classical
variable [Sel]

noncomputable def fzO (b m:Nat) (e:TypeId) (xs:List AV):HObj→HObj
 | .var d x=>.var d (fzA b m e xs x)
 | o=>o
noncomputable def fzS (b m:Nat) (e:TypeId) (xs:List AV) (rest:q8) (s:St):St :=
 { s with env:=fun t=>zho b m e xs (s.env t),loc:=fun k=>(s.loc k).map fun p=>(p.1,fzA b m e xs p.2),H:=rest.map fun p=>(p.1,fzO b m e xs p.2) }
theorem AT.freeze {c:Ctx} {code:Code} {K:Exit→St→Prop} {s:St} {b m:Nat} {e:TypeId} {xs:List AV} {rest:q8} (hl:laidOutB c.P=true)
  (hH:s.H.Perm ((b,.var (.arr m e) (.agg xs))::rest)) (h:AT c code K (fzS b m e xs rest s)):AT c code K s:=by
 intro a w g β hS
 have hrep:Rep c.P g w ((b,.var (.arr m e) (.agg xs))::rest):=⟨hS.rep.imm,(hH.map _).nodup_iff.1 hS.rep.nodup,fun x o ho=>hS.rep.obj x o (hH.mem_iff.2 ho),hS.rep.tab⟩
 obtain⟨h0,cs,⟨E,fz,hc,_,_⟩,hvc⟩:=hrep.obj b (.var (.arr m e) (.agg xs)) (by simp)
 simp only[VC]at hvc
 obtain⟨hm,hvl⟩:=hvc
 have hsz:=QP hl _ _ _ hvl
 rw[Array.length_toList,hm]at hsz
 have h00:g.imm b=0:=h0
 obtain⟨g',hg'⟩:∃g':Gh,g'={ g with imm:=upd g.imm b (m*c.P.cellsOf e) }:=⟨_,rfl⟩
 have hgi:g'.imm=upd g.imm b (m*c.P.cellsOf e):=by rw[hg']
 have hgg:g'.γ=g.γ:=by rw[hg']
 have hle:g.le g':=by
  refine⟨fun x=>?_,fun _ _ _ e=>by rw[hgg];exact e⟩
  rw[hgi];simp only[upd];split
  ·rename_i ee;rw[ee,h00];exact Nat.zero_le _
  ·exact Nat.le_refl _
 have hk:k5 g w w:=fun b cs E fz _ hb=>⟨cs,E,fz,hb,rfl,fun _ _=>rfl⟩
 have hi:QO g w:=hrep.imm
 have hcell:zP w b 0 (m*c.P.cellsOf e)=cs.toList:=by
  unfold zP
  rw[hc]
  simp only[List.drop_zero]
  rw[List.take_of_length_le (by simp[hsz])]
 have hv2:VL c.P g' w e xs (zP w b 0 (m*c.P.cellsOf e)):=by
  rw[hcell];exact ZU hle hi hk _ _ _ hvl
 have hb2:m*c.P.cellsOf e≤g'.imm b:=by rw[hgi];simp[upd]
 have hfc:∀d x l,VC c.P g w d x l→VC c.P g' w d (fzA b m e xs x) l:=fun d x l hx=>zeO hl hle hi hb2 hv2 hm x d _ hx
 have hfz:∀d x v,VV c.P g w d x v→VV c.P g' w d (fzA b m e xs x) v:=fun d x v hx=>⟨hx.1,hfc _ _ _ hx.2⟩
 have hnd:=hrep.nodup
 simp only[q8.keys,List.map_cons,List.nodup_cons]at hnd
 have hbH:b∈s.H.keys:=List.mem_map.2 ⟨_,hH.mem_iff.2 (List.mem_cons_self ..),rfl⟩
 have hkeys:∀x,x∈(fzS b m e xs rest s).H.keys→x∈s.H.keys:=by
  intro x hx
  simp only[fzS,q8.keys,List.map_map,Function.comp_def]at hx
  obtain⟨p,hp,rfl⟩:=List.mem_map.1 hx
  exact List.mem_map.2 ⟨p,hH.mem_iff.2 (List.mem_cons_of_mem _ hp),rfl⟩
 have himm:∀x,x≠b→g'.imm x=g.imm x:=fun x hx=>by rw[hgi];simp[upd,hx]
 refine h a w g' β ?_
 exact {
  defers:=hS.defers
  size:=hS.size
  env:=fun t=>by
   have ht:=hS.env t
   show TVR c.P _ g' w β (zho b m e xs (s.env t)) _
   cases he:s.env t with
   | av d x=>rw[he]at ht;exact hfz _ _ _ ht
   | cst cc=>rw[he]at ht;exact ht
   | loc k path =>
    rw[he]at ht
    obtain⟨d,x,off,d',h1,h2,h3⟩:=ht
    exact⟨d,fzA b m e xs x,off,d',by simp[fzS,h1],h2,h3⟩
   | pel d x =>
    rw[he]at ht
    obtain⟨h0,b',off,h1,h2,h3⟩:=ht
    exact⟨h0,b',off,h1,Nat.le_trans h2 (hle.1 b'),j6 hle hi hk _ _ _ h3⟩
   | tup l=>rw[he]at ht;obtain⟨us,h3,h4⟩:=ht;exact⟨us,h3,zij hfz h4⟩
   | junk=>trivial
  locs:=fun k d x hx=>by
   simp only[fzS,Option.map_eq_some_iff]at hx
   obtain⟨⟨d',x'⟩,h1,h2⟩:=hx
   simp only[Prod.mk.injEq]at h2
   obtain⟨rfl,rfl⟩:=h2
   have hL:=hS.locs k d' x' h1
   obtain⟨cs',hc',hv'⟩:=hL.block
   exact⟨hL.base,fun hb=>hL.noH (hkeys _ hb),by rw[himm _ (fun ee=>hL.noH (by rw[ee];exact hbH))];exact hL.imm,cs',hc',hfc _ _ _ hv'⟩
  inj:=fun k j h1 h2=>hS.inj k j (by intro h3;apply h1;simp[fzS,h3]) (by intro h3;apply h2;simp[fzS,h3])
  rep:=by
   refine⟨fun x hx=>?_,?_,fun x o ho=>?_,hrep.tab.keep hle hi hk⟩
   ·rw[hgi]at hx ⊢
    simp only[upd]at hx ⊢
    split
    ·rename_i ee;rw[ee];exact⟨cs,E,fz,hc,by rw[hsz];exact Nat.le_refl _⟩
    ·rename_i ee;rw[if_neg ee]at hx;exact hrep.imm x hx
   ·simp only[fzS,q8.keys,List.map_map,Function.comp_def];exact hnd.2
   ·simp only[fzS,List.mem_map]at ho
    obtain⟨⟨x',o'⟩,ho',h2⟩:=ho
    simp only[Prod.mk.injEq]at h2
    obtain⟨rfl,rfl⟩:=h2
    have hne:x'≠b:=fun ee=>hnd.1 (by rw[←ee];exact List.mem_map.2 ⟨(x',o'),ho',rfl⟩)
    have hob:=hrep.obj x' o' (List.mem_cons_of_mem _ ho')
    cases o' with
    | var d y=>obtain⟨q1,cs',q2,q3⟩:=hob;exact⟨(himm _ hne).trans q1,cs',q2,hfc _ _ _ q3⟩
    | map k e es=>obtain⟨q1,en,ck,q2,q3⟩:=hob;exact⟨(himm _ hne).trans q1,en,ck,q2,xO hle hi hk q3.1,q3.2⟩
    | raw o i0 w0=>obtain⟨q1,q2,q3⟩:=hob;exact⟨(himm _ hne).trans q1,q2,kX q3 hle hk⟩
  toks:=fun k t hx=>by
   rw[hgg]at hx
   have hT:=hS.toks k t hx
   exact⟨hT.base,fun hb=>hT.noH (hkeys _ hb),fun j hj=>hT.noLoc j (by intro h3;apply hj;simp[fzS,h3]),by rw[himm _ (fun ee=>hT.noH (by rw[ee];exact hbH))];exact hT.imm,hT.block⟩
  tokd:=fun k k' t t' h1 h2=>by rw[hgg]at h1 h2;exact hS.tokd k k' t t' h1 h2
  toknew:=fun k v hv=>by rw[hgg];exact hS.toknew k v hv
  step:=by
   have st:=hS.step
   exact {
    os:=st.os,tape:=st.tape,output:=st.output,size:=st.size,drawn:=st.drawn
    frame:=fun x hx hn=>by
     obtain⟨q1,q2⟩:=st.frame x hx hn
     have hne:x≠b:=fun ee=>by
      rcases st.dom b hbH with h1|h1
      ·exact hn (by rw[ee];exact h1)
      ·omega
     exact⟨q1,by rw[himm _ hne];exact q2⟩
    imm:=fun x=>Nat.le_trans (st.imm x) (hle.1 x)
    kept:=st.kept
    dom:=fun x hx=>st.dom x (hkeys _ hx) } }
theorem AT.fzLe {c:Ctx} {code:Code} {K:Exit→St→Prop} {s s':St} {b m:Nat} {e:TypeId} {xs:List AV} {rest:q8} (hl:laidOutB c.P=true)
  (hH:s.H.Perm ((b,.var (.arr m e) (.agg xs))::rest)) (hle:Le (fzS b m e xs rest s) s') (h:AT c code K s'):AT c code K s :=
 AT.freeze hl hH fun a w g β hS=>h a w g β (hS.weaken hle)
end Go.Ab
