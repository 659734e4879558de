/- What a reading of the arguments tells: reads. No condition. -/
import Derived.Test.YtfkcpballfhddaaGreatDoorB0
set_option linter.unusedSimpArgs false
set_option linter.unusedVariables false
set_option linter.unusedSectionVars false
set_option maxRecDepth 100000
namespace Go.Proofs.YtfkcpballfhddaaGreatDoor
open Go Go.Ab
open Classical
variable [Sel]
theorem pS {α:Type} {f:α->AV} {q:AV->Prop} {r:α->Prop} {xs:List AV} (h:∀y∈xs,q y) (hd:∀y,q y->∃a,y=f a/\r a):∃l:List α,xs=l.map f/\∀a∈l,r a:=by
 induction xs with
 | nil=>exact⟨[],rfl,by simp⟩
 | cons y ys ih =>
  obtain⟨a,ha,hr⟩:=hd y (h y (by simp))
  obtain⟨l,hl,hl2⟩:=ih fun z hz=>h z (by simp[hz])
  exact⟨a::l,by simp[ha,hl],by simpa using⟨hr,hl2⟩⟩
end Go.Proofs.YtfkcpballfhddaaGreatDoor
