/- How a box stands, told by the document's word alone: plain. No condition beyond each theorem's own. -/
import Derived.Test.YtcgpcfcbienapaaGreatDoorRW3ToK6
set_option linter.unusedSimpArgs false
set_option linter.unusedVariables false
set_option linter.unusedSectionVars false
set_option maxRecDepth 100000
/-! How a box stands, told by the document's word alone: plain. -/
namespace Go.Proofs.YtcgpcfcbienapaaGreatDoor
open Go Go.Ab
open Classical
variable [Sel] [SelPow] [SelMax]

noncomputable def ovF (may:Txt→Bool) (f:StV):Bool:=!(decide (f.stop.kind=1)&&may f.stop.path)
noncomputable def zzs (outs:List Txt) (may:Txt→Bool) (f:StV):Int:=if f.stop.kind=1 then(if may f.stop.path=true then 0 else 13) else if f.stop.kind=3 then(if ∀p∈outs,p∈f.wrote.map (·.path) then 0 else 14) else f.stop.why
theorem zfw.no {outs:List Txt} {l wr:List DoV} {d:DoV} (h:zfw outs l) (hp:wr++[d] <+: l):¬(d.path∈wr.map (·.path)∨d.path∉outs):=by
 obtain⟨t,rfl⟩:=hp
 obtain⟨n1,n2⟩:=h
 rintro(hb|hb)
 ·simp only[List.map_append,List.append_assoc]at n1
  exact(List.nodup_append.1 n1).2.2 _ hb d.path (by simp) rfl
 ·exact hb (n2 d (by simp))
theorem zeV.det {outs:List Txt} {may:Txt→Bool} {f:StV} {b:zCU} (h:zeV outs may f b) (hR:zfw outs f.wrote):b.over=ovF may f∧b.why=zzs outs may f∧(b.over=false→b.asks=f.stop.path):=by
 cases h with
 | waits h1 h2 h3 h4 h5 h6=>simp[ovF,zzs,h1,h2,h3,h4,h5]
 | read h1 h2 h3 h4 h5=>simp[ovF,zzs,h1,h2,h3,h4]
 | ended h1 h2 h3 h4 h5=>rw[ovF,zzs,if_neg (by rw[h1];decide),if_pos h1,if_pos h2];simp[h1,h3,h4]
 | short h1 h2 h3 h4 h5=>rw[ovF,zzs,if_neg (by rw[h1];decide),if_pos h1,if_neg h2];simp[h1,h3,h4]
 | failed h1 h2 h3 h4 h5=>simp[ovF,zzs,h1,h3,h4]
 | wrote wr d h1 h2 h3 h4=>exact absurd h2 (hR.no h1)
end Go.Proofs.YtcgpcfcbienapaaGreatDoor
