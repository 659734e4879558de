/- What the rows' lists of tables give; the witness's values. No condition beyond each theorem's own. -/
import Derived.Test.YtcgpcfcbienapaaGreatDoorPB
import Derived.Test.YtcgpcfcbienapaaGreatDoorPT0
import Derived.Test.YtcgpcfcbienapaaGreatDoorQ0ToK5
import Derived.Test.YtcgpcfcbienapaaGreatDoorCards
import Derived.Test.YtcgpcfcbienapaaGreatDoorTie
import Derived.WalkKit
import Derived.ProofKit
import Derived.OpenShut
import Derived.JoinedOf
import Derived.Deep.DeepHandedRow
import Derived.Lib.LaidTab
import Derived.LaidSub
import Derived.LaidLaws
import Derived.Lay
set_option linter.unusedSimpArgs false
set_option linter.unusedVariables false
set_option linter.unusedSectionVars false
set_option maxRecDepth 100000
/-! What the rows' lists of tables give; the witness's values. -/
namespace Go.Proofs.YtcgpcfcbienapaaGreatDoor
open Go Go.Ab
open Classical


theorem zFC [Sel] {W:World} {name nm:String} {x:DataW Unit} {g:Nat} {ti:TypeId} {ms:Array (String × TypeId)} (hno:(DataW.iface nm x).handleName?=none) (hg:Tryz.prog.globalNamed name=some g) (ht:(Tryz.prog.globals[g]?).map (·.type)=some ti) (hu:Tryz.prog.underlying ti=some (.interface ms))
  (h:laidMetH Tryz.prog [(name,.iface nm x)] W):zpv (QU W) W g:=by
 have h1:laidMet Tryz.prog [(name,.iface nm x)] W:=by
  unfold laidMetH at h
  simpa[List.filter,hno]using h
 obtain⟨ps,hv,_,_⟩:=h1
 obtain⟨g',t,cs,fuel,p,q,e1,e2,e3,e4,_⟩:=hv
 rw[hg]at e1;cases e1
 rw[ht]at e2;cases e2
 obtain⟨_,u,v,hcs,_⟩:=iface_of_trod hu e4
 unfold World.var? at e3
 rw[hg]at e3
 simp only[Option.bind_some]at e3
 split at e3
 ·rename_i cs' E fz hh
  cases e3
  have hlen:cs.size=1:=by rw[←Array.length_toList,hcs];rfl
  refine⟨by simp only[QU,hh,hlen];decide,cs,E,fz,.iface u v,hh,?_,.inr ⟨u,v,rfl⟩⟩
  rw[←Array.getElem?_toList,hcs];rfl
 ·cases e3
end Go.Proofs.YtcgpcfcbienapaaGreatDoor
