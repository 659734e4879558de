/- The document's bytes of a row; a key's traces dropped. No condition beyond each theorem's own. -/
import Derived.Test.YtcioeonlclpacaaGreatDoorH0To
import Derived.Test.YtcioeonlclpacaaGreatDoorP40To3
import Derived.Test.YtcioeonlclpacaaGreatDoorPM0ToD9a
set_option linter.unusedSimpArgs false
set_option linter.unusedVariables false
set_option linter.unusedSectionVars false
section
set_option maxRecDepth 100000
namespace Go.Proofs.YtcioeonlclpacaaGreatDoor
open Go Go.Ab
open Classical
variable [Sel] [SelPow]
theorem TrW.bytes {t:zaP} (h:TrW t) (hd:TrD t):PC Tryz.prog 80 [.av (qD Tryz.prog 49) (qK t)] (zDc t):=zPQ t h.1 hd h.2.1 h.2.2 (zMz hd)
structure BdD (L:DbL):Prop where
 ok:OKD L
 mem:InD (fun t=>TrW t∧TrD t) (fun k=>k.length=32) L
 len:L.length≤85
 row:∀k,(getD L k).length≤8
theorem BdD.get {L:DbL} (h:BdD L) {k:Dig}:∀t∈getD L k,TrW t∧TrD t:=fun t ht=>by
 obtain⟨p,hp,ht⟩:=zNN ht
 exact(h.mem p hp).2 t ht
theorem BdD.cels {L:DbL} (h:BdD L) {cs:List Cel} (habs:zJx cs=L):cs.length≤85∧cs.map (·.key)=L.map Prod.fst∧∀c∈cs,c.key.length=32∧∀t∈c.ts,TrW t∧TrD t:=by
 refine⟨?_,by rw[←habs];simp[zJx,Function.comp_def],fun c hc=>?_⟩
 ·have:(zJx cs).length=cs.length:=by simp[zJx]
  rw[habs]at this
  have:=h.len;omega
 ·have:(c.key,c.ts)∈L:=by rw[←habs];exact List.mem_map.2 ⟨c,hc,rfl⟩
  exact h.mem _ this
structure zUT where
 kind:Int
 t:zaP
structure CG (n mo:Nat) (L:DbL):Prop where
 ok:OKD L
 mem:InD (fun t=>TrW t∧TrD t) (fun k=>k.length=32) L
 len:L.length≤n
 row:∀k,(getD L k).length≤mo
theorem CG.nil {mo:Nat}:CG 0 mo []:=⟨zOP,fun p hp=>by simp at hp,by simp,fun k=>by simp[getD]⟩
theorem CG.add {n mo:Nat} {L:DbL} (h:CG n mo L) (hm:1≤mo) {t:zaP} (ht:TrW t) (hd:TrD t):CG (n+1) mo (zJj mo L t):=by
 refine⟨zOS hm h.ok t,zON h.mem ⟨ht,hd⟩ hd.1,?_,fun q=>?_⟩
 ·have:=h.len
  unfold zJj
  split
  ·have:=zNQ (k:=t.key) (v:=zJr mo t (getD L t.key)) (L:=L);omega
  ·omega
 ·rw[zKB]
  unfold zMN
  split
  ·exact zMb _ _ _
  ·exact h.row q
@[simp] theorem zkd:qZ Tryz.prog 180=true:=by kernel_rfl
@[simp] theorem zr5:z8 Tryz.prog (.func 180)=false:=q9 zkd
noncomputable def zDO:Option Int→TV
 | some v=>.tup [(.int .i64,.i .i64 v),(.bool,.b true)]
 | none=>.tup [(.int .i64,.i .i64 0),(.bool,.b false)]
end Go.Proofs.YtcioeonlclpacaaGreatDoor
end
