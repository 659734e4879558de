/- A db as one row of traces: the document. No condition beyond each theorem's own. -/
import Derived.Test.YtcioeonlclpacaaGreatDoorP25ToG2
import Derived.Test.YtcioeonlclpacaaGreatDoorPM0ToD9a
set_option linter.unusedSimpArgs false
set_option linter.unusedVariables false
set_option linter.unusedSectionVars false
section
set_option maxRecDepth 100000
namespace Go.Proofs.YtcioeonlclpacaaGreatDoor
open Go Go.Ab
open Classical
variable [Sel] [SelPow]
def OKD (L:DbL):Prop:=(L.map Prod.fst).Nodup∧∀p∈L,p.2≠[]∧∀t∈p.2,t.key=p.1
theorem zQv {L:DbL} (h:(L.map Prod.fst).Nodup) {p:Dig × List zaP} (hp:p∈L):getD L p.1=p.2:=by
 induction L with
 | nil=>simp at hp
 | cons q r ih =>
  rw[List.map_cons,List.nodup_cons]at h
  rcases List.mem_cons.1 hp with rfl|hp
  ·simp[getD]
  ·have:¬q.1=p.1:=fun e=>h.1 (e▸List.mem_map.2 ⟨p,hp,rfl⟩)
   have ih:=ih h.2 hp
   simp only[getD,List.find?_cons,this,decide_false]at ih ⊢
   exact ih
theorem zOZ {L:DbL} (h:OKD L) {k:Dig} (hk:k∈L.map Prod.fst):getD L k≠[]∧∀t∈getD L k,t.key=k:=by
 obtain⟨p,hp,rfl⟩:=List.mem_map.1 hk
 rw[zQv h.1 hp]
 exact h.2 p hp
theorem zP3 {L:DbL} {k:Dig} (hk:k∉L.map Prod.fst):getD L k=[]:=by
 unfold getD
 have:L.find? (fun p=>decide (p.1=k))=none:=List.find?_eq_none.2 fun p hp=>by
  have:¬p.1=k:=fun e=>hk (e▸List.mem_map.2 ⟨p,hp,rfl⟩)
  simp[this]
 rw[this]
theorem zNX {l:List Dig} {k:Dig}:k∈zKJ l↔k∈l:=(zKE l).1.mem_iff
theorem zLR {l:List Dig} (h:l.Nodup):(zKJ l).Nodup:=(zKE l).1.nodup_iff.2 h
theorem zVj {k:Dig} {f:Dig→List zaP}:∀ {ks:List Dig},ks.Nodup→(∀q∈ks,∀t∈f q,t.key=q)→(ks.flatMap f).filter (fun x=>decide (x.key=k))=if k∈ks then f k else []
 | [],_,_=>by simp
 | q::ks,hn,h=>by
  rw[List.nodup_cons]at hn
  have ih:=zVj (k:=k) hn.2 fun q' hq=>h q' (List.mem_cons_of_mem _ hq)
  rw[List.flatMap_cons,List.filter_append,ih]
  by_cases e:q=k
  ·subst e
   rw[if_neg hn.1,if_pos (by simp),List.append_nil]
   exact List.filter_eq_self.2 fun t ht=>by simp[h q (by simp) t ht]
  ·have:(f q).filter (fun x=>decide (x.key=k))=[]:=List.filter_eq_nil_iff.2 fun t ht=>by simp[h q (by simp) t ht,e]
   rw[this,List.nil_append]
   by_cases hm:k∈ks
   ·rw[if_pos hm,if_pos (List.mem_cons_of_mem _ hm)]
   ·rw[if_neg hm,if_neg (by simp[hm];exact fun e2=>e e2.symm)]
/-! ### keys -/
theorem zRo {mo:Nat} (hm:1≤mo) (t:zaP) (ts:List zaP):zJr mo t ts≠[]:=by
 obtain⟨q,rfl⟩:∃q,mo=q+1:=⟨mo-1,by omega⟩
 simp[zJr]
theorem zRM {mo:Nat} (hm:1≤mo) {L:DbL} (h:OKD L) (t:zaP):OKD (zJA t.key (zJr mo t (getD L t.key)) L):=by
 refine⟨zMP h.1,fun p hp=>?_⟩
 rcases zM3 hp with rfl|hp
 ·refine⟨zRo hm _ _,fun x hx=>?_⟩
  have hx:=List.mem_of_mem_take hx
  rcases List.mem_cons.1 hx with rfl|hx
  ·rfl
  ·rw[zQ8]at hx
   obtain⟨hx,_⟩:=List.mem_filter.1 hx
   by_cases hk:t.key∈L.map Prod.fst
   ·exact(zOZ h hk).2 x hx
   ·rw[zP3 hk]at hx;simp at hx
 ·exact h.2 p hp
theorem zOS {mo:Nat} (hm:1≤mo) {L:DbL} (h:OKD L) (t:zaP):OKD (zJj mo L t):=by
 unfold zJj
 split
 ·exact zRM hm h t
 ·exact h
theorem zOP:OKD []:=⟨by simp,fun p hp=>by simp at hp⟩
@[simp] theorem zlt:qZ Tryz.prog 141=true:=by kernel_rfl
@[simp] theorem zqM:z8 Tryz.prog (.func 141)=false:=q9 zlt
@[simp] theorem zx2:qZ Tryz.prog 73=true:=by kernel_rfl
@[simp] theorem zxA:z8 Tryz.prog (.func 73)=false:=q9 zx2
@[simp] theorem zkr:qZ Tryz.prog 144=true:=by kernel_rfl
@[simp] theorem zqg:z8 Tryz.prog (.func 144)=false:=q9 zkr
theorem zVP (d:Dig) (k:Nat) (h:k<d.length):(d.map fun b=>AV.i .u8 b.toNat)[k]?=some (.i .u8 d[k].toNat):=by simp[List.getElem?_eq_getElem h]
@[simp] theorem zAA:qZ Tryz.prog 81=true:=by kernel_rfl
@[simp] theorem zBq:z8 Tryz.prog (.func 81)=false:=q9 zAA
@[simp] theorem zAs:qZ Tryz.prog 82=true:=by kernel_rfl
@[simp] theorem zBi:z8 Tryz.prog (.func 82)=false:=q9 zAs
end Go.Proofs.YtcioeonlclpacaaGreatDoor
end
