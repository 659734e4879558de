/- A db as one row of traces: the document. No condition beyond each theorem's own. -/
import Derived.Test.YtcioeonlclpacaaGreatDoorP25ToG2
import Derived.Test.YtcioeonlclpacaaGreatDoorPM0ToD9a
set_option linter.unusedSimpArgs false
set_option linter.unusedVariables false
set_option linter.unusedSectionVars false
section
set_option maxRecDepth 100000
namespace Go.Proofs.YtcioeonlclpacaaGreatDoor
open Go Go.Ab
open Classical
variable [Sel] [SelPow]
def OKD (L:DbL):Prop:=(L.map Prod.fst).Nodup∧∀p∈L,p.2≠[]∧∀t∈p.2,t.key=p.1
theorem zQv {L:DbL} (h:(L.map Prod.fst).Nodup) {p:Dig × List zaP} (hp:p∈L):getD L p.1=p.2:=by
 induction L with
 | nil=>simp at hp
 | cons q r ih =>
  rw[List.map_cons,List.nodup_cons]at h
  rcases List.mem_cons.1 hp with rfl|hp
  ·simp[getD]
  ·have:¬q.1=p.1:=fun e=>h.1 (e▸List.mem_map.2 ⟨p,hp,rfl⟩)
   have ih:=ih h.2 hp
   simp only[getD,List.find?_cons,this,decide_false]at ih ⊢
   exact ih
theorem zOZ {L:DbL} (h:OKD L) {k:Dig} (hk:k∈L.map Prod.fst):getD L k≠[]∧∀t∈getD L k,t.key=k:=by
 obtain⟨p,hp,rfl⟩:=List.mem_map.1 hk
 rw[zQv h.1 hp]
 exact h.2 p hp
theorem zP3 {L:DbL} {k:Dig} (hk:k∉L.map Prod.fst):getD L k=[]:=by
 unfold getD
 have:L.find? (fun p=>decide (p.1=k))=none:=List.find?_eq_none.2 fun p hp=>by
  have:¬p.1=k:=fun e=>hk (e▸List.mem_map.2 ⟨p,hp,rfl⟩)
  simp[this]
 rw[this]
theorem zNX {l:List Dig} {k:Dig}:k∈zKJ l↔k∈l:=(zKE l).1.mem_iff
theorem zLR {l:List Dig} (h:l.Nodup):(zKJ l).Nodup:=(zKE l).1.nodup_iff.2 h
/-! ### keys -/
theorem zRo {mo:Nat} (hm:1≤mo) (t:zaP) (ts:List zaP):zJr mo t ts≠[]:=by
 obtain⟨q,rfl⟩:∃q,mo=q+1:=⟨mo-1,by omega⟩
 simp[zJr]
theorem zRM {mo:Nat} (hm:1≤mo) {L:DbL} (h:OKD L) (t:zaP):OKD (zJA t.key (zJr mo t (getD L t.key)) L):=by
 refine⟨zMP h.1,fun p hp=>?_⟩
 rcases zM3 hp with rfl|hp
 ·refine⟨zRo hm _ _,fun x hx=>?_⟩
  have hx:=List.mem_of_mem_take hx
  rcases List.mem_cons.1 hx with rfl|hx
  ·rfl
  ·rw[zQ8]at hx
   obtain⟨hx,_⟩:=List.mem_filter.1 hx
   by_cases hk:t.key∈L.map Prod.fst
   ·exact(zOZ h hk).2 x hx
   ·rw[zP3 hk]at hx;simp at hx
 ·exact h.2 p hp
theorem zOS {mo:Nat} (hm:1≤mo) {L:DbL} (h:OKD L) (t:zaP):OKD (zJj mo L t):=by
 unfold zJj
 split
 ·exact zRM hm h t
 ·exact h
theorem zOP:OKD []:=⟨by simp,fun p hp=>by simp at hp⟩
@[simp] theorem zlt:qZ Tryz.prog 141=true:=by kernel_rfl
@[simp] theorem zqM:z8 Tryz.prog (.func 141)=false:=q9 zlt
@[simp] theorem zx2:qZ Tryz.prog 73=true:=by kernel_rfl
@[simp] theorem zxA:z8 Tryz.prog (.func 73)=false:=q9 zx2
@[simp] theorem zkr:qZ Tryz.prog 144=true:=by kernel_rfl
@[simp] theorem zqg:z8 Tryz.prog (.func 144)=false:=q9 zkr
@[simp] theorem zAA:qZ Tryz.prog 81=true:=by kernel_rfl
@[simp] theorem zBq:z8 Tryz.prog (.func 81)=false:=q9 zAA
@[simp] theorem zAs:qZ Tryz.prog 82=true:=by kernel_rfl
@[simp] theorem zBi:z8 Tryz.prog (.func 82)=false:=q9 zAs
end Go.Proofs.YtcioeonlclpacaaGreatDoor
end
