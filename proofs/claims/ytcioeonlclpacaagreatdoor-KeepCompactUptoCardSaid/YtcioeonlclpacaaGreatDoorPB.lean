/- The second form's bound: what a reading's bulk tells of its texts. No condition beyond each theorem's own. -/
import Derived.Test.YtcioeonlclpacaaGreatDoorPDToP42
import Derived.Test.YtcioeonlclpacaaGreatDoorCards
import Derived.Test.YtcioeonlclpacaaGreatDoorTie
import Derived.WalkKit
import Derived.ProofKit
import Derived.OpenShut
import Derived.JoinedOf
import Derived.Deep.DeepHandedRow
import Derived.Lib.LaidTab
import Derived.LaidSub
import Derived.LaidLaws
import Derived.Lay
set_option linter.unusedSimpArgs false
set_option linter.unusedVariables false
set_option linter.unusedSectionVars false
set_option maxRecDepth 100000
/-! The second form's bound: what a reading's bulk tells of its texts. -/
namespace Go.Proofs.YtcioeonlclpacaaGreatDoor
open Go Go.Ab
open Classical


mutual
def QJ:AV→Nat
 | .s l=>l.length+1
 | .agg xs=>ZD xs+1
 | .sl _ xs=>ZD xs+1
 | _=>0
def ZD:List AV→Nat
 | []=>0
 | x::xs=>QJ x+ZD xs
end
mutual
theorem J1 {H:Type}:∀d:DataW H,QJ (JG d)≤Rows.uptoBulk d
 | .lit (.bool b)=>by simp[JG,QJ]
 | .lit (.int k n)=>by simp[JG,QJ]
 | .lit (.string s)=>by simp[JG,QJ,Rows.uptoBulk]
 | .nil=>by simp[JG,QJ,ZD,Rows.uptoBulk]
 | .slice es sp=>by
  have:=gP es
  simp only[JG,QJ,Rows.uptoBulk];omega
 | .agg ps=>by
  have:=gP ps
  simp only[JG,QJ,Rows.uptoBulk];omega
 | .ptr _=>by simp[JG,QJ]
 | .iface _ _=>by simp[JG,QJ]
 | .map _=>by simp[JG,QJ]
 | .held _=>by simp[JG,QJ]
 | .lit (.float _ _)=>by simp[JG,QJ]
 | .lit .nil=>by simp[JG,QJ]
theorem gP {H:Type}:∀l:List (DataW H),ZD (K7 l)≤Rows.uptoBulkAll l
 | []=>by simp[K7,ZD]
 | d::l=>by
  have h1:=J1 d
  have h2:=gP l
  simp only[K7,ZD,Rows.uptoBulkAll];omega
end
theorem VR {H:Type}:∀a b:List (DataW H),Rows.uptoBulkAll (a++b)=Rows.uptoBulkAll a+Rows.uptoBulkAll b
 | [],b=>by simp[Rows.uptoBulkAll]
 | x::a,b=>by
  have:=VR a b
  simp only[List.cons_append,Rows.uptoBulkAll,this];omega
theorem zMl {x:AV}:∀ {l:List AV},x∈l→QJ x≤ZD l
 | y::l,h=>by
  rcases List.mem_cons.1 h with rfl|h
  ·simp only[ZD];omega
  ·have:=zMl h;simp only[ZD];omega
end Go.Proofs.YtcioeonlclpacaaGreatDoor
