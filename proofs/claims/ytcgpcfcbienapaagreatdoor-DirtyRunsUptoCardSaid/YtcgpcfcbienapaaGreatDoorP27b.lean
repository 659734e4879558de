/- A trace that may be, told of its reads: plain. No condition beyond each theorem's own. -/
import Derived.Test.YtcgpcfcbienapaaGreatDoorBE1aToAN0
set_option linter.unusedSimpArgs false
set_option linter.unusedVariables false
set_option linter.unusedSectionVars false
set_option maxRecDepth 100000
/-! A trace that may be, told of its reads: plain. -/
namespace Go.Proofs.YtcgpcfcbienapaaGreatDoor
open Go Go.Ab
open Classical
variable [Sel]

theorem zDN:∀ {l:List Read},(l.map (·.path)).Nodup→∀r∈l,l.find? (fun x=>decide (x.path=r.path))=some r
 | [],_,r,hr=>by cases hr
 | x::l,hn,r,hr=>by
  rw[List.map_cons,List.nodup_cons]at hn
  rw[List.find?_cons]
  rcases List.mem_cons.1 hr with rfl|hr
  ·simp
  ·have:¬x.path=r.path:=fun e=>hn.1 (by rw[e];exact List.mem_map.2 ⟨r,hr,rfl⟩)
   simp only[this,decide_false]
   exact zDN hn.2 r hr
theorem zEX {l:List Read} (h:(l.map (·.path)).Nodup) (i:Nat):((l.take i).map (·.path)).Nodup:=by
 rw[List.map_take]
 exact h.sublist (List.take_sublist _ _)
end Go.Proofs.YtcgpcfcbienapaaGreatDoor
