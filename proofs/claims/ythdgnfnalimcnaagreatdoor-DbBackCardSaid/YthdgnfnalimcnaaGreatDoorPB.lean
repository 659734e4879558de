/- The second form's bound: what a reading's bulk tells of its texts. No condition beyond each theorem's own. -/
import Derived.Test.YthdgnfnalimcnaaGreatDoorP17ToPD
import Derived.Test.YthdgnfnalimcnaaGreatDoorCards
import Derived.Test.YthdgnfnalimcnaaGreatDoorTie
import Derived.WalkKit
import Derived.ProofKit
import Derived.OpenShut
import Derived.JoinedOf
import Derived.Deep.DeepHandedRow
import Derived.Lib.LaidTab
import Derived.LaidSub
import Derived.LaidLaws
import Derived.Lay
set_option linter.unusedSimpArgs false
set_option linter.unusedVariables false
set_option linter.unusedSectionVars false
set_option maxRecDepth 100000
/-! The second form's bound: what a reading's bulk tells of its texts. -/
namespace Go.Proofs.YthdgnfnalimcnaaGreatDoor
open Go Go.Ab
open Classical


mutual
def bulkA : AV → Nat
  | .s l => l.length + 1
  | .agg xs => bulkAs xs + 1
  | .sl _ xs => bulkAs xs + 1
  | _ => 0
def bulkAs : List AV → Nat
  | [] => 0
  | x :: xs => bulkA x + bulkAs xs
end
mutual
theorem bulkA_le {H : Type} : ∀ d : DataW H, bulkA (avOf d) ≤ Rows.uptoBulk d
  | .lit (.bool b) => by simp [avOf, bulkA]
  | .lit (.int k n) => by simp [avOf, bulkA]
  | .lit (.string s) => by simp [avOf, bulkA, Rows.uptoBulk]
  | .nil => by simp [avOf, bulkA, bulkAs, Rows.uptoBulk]
  | .slice es sp => by
    have := bulkAs_le es
    simp only [avOf, bulkA, Rows.uptoBulk]; omega
  | .agg ps => by
    have := bulkAs_le ps
    simp only [avOf, bulkA, Rows.uptoBulk]; omega
  | .ptr _ => by simp [avOf, bulkA]
  | .iface _ _ => by simp [avOf, bulkA]
  | .map _ => by simp [avOf, bulkA]
  | .held _ => by simp [avOf, bulkA]
  | .lit (.float _ _) => by simp [avOf, bulkA]
  | .lit .nil => by simp [avOf, bulkA]
theorem bulkAs_le {H : Type} : ∀ l : List (DataW H), bulkAs (avOfs l) ≤ Rows.uptoBulkAll l
  | [] => by simp [avOfs, bulkAs]
  | d :: l => by
    have h1 := bulkA_le d
    have h2 := bulkAs_le l
    simp only [avOfs, bulkAs, Rows.uptoBulkAll]; omega
end
end Go.Proofs.YthdgnfnalimcnaaGreatDoor
