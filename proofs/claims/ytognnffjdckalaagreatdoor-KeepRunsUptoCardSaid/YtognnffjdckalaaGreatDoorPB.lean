/- The second form's bound: what a reading's bulk tells of its texts. No condition. -/
import Derived.Test.YtognnffjdckalaaGreatDoorPDToP42
import Derived.Test.YtognnffjdckalaaGreatDoorCards
import Derived.Test.YtognnffjdckalaaGreatDoorTie
import Derived.Deep.DeepHandedRow
import Derived.Lay
set_option linter.unusedSimpArgs false
set_option linter.unusedVariables false
set_option linter.unusedSectionVars false
set_option maxRecDepth 100000
namespace Go.Proofs.YtognnffjdckalaaGreatDoor
open Go Go.Ab
open Classical
mutual
def JJ:AV->Nat
 | .s l=>l.length+1
 | .agg xs=>Z6 xs+1
 | .sl _ xs=>Z6 xs+1
 | .i _ _=>1
 | _=>0
def Z6:List AV->Nat
 | []=>0
 | x::xs=>JJ x+Z6 xs
end
mutual
theorem zgt {H:Type}:∀d:DataW H,JJ (KB d)<=Rows.uptoBulk d
 | .lit (.bool b)=>by simp[KB,JJ]
 | .lit (.int k n)=>by simp[KB,JJ,Rows.uptoBulk]
 | .lit (.string s)=>by simp[KB,JJ,Rows.uptoBulk]
 | .nil=>by simp[KB,JJ,Z6,Rows.uptoBulk]
 | .slice es sp=>by
  have:=pQ es
  simp only[KB,JJ,Rows.uptoBulk];omega
 | .agg ps=>by
  have:=pQ ps
  simp only[KB,JJ,Rows.uptoBulk];omega
 | .ptr _=>by simp[KB,JJ]
 | .iface _ _=>by simp[KB,JJ]
 | .map _=>by simp[KB,JJ]
 | .held _=>by simp[KB,JJ]
 | .lit (.float _ _)=>by simp[KB,JJ]
 | .lit .nil=>by simp[KB,JJ]
theorem pQ {H:Type}:∀l:List (DataW H),Z6 (W9 l)<=Rows.uptoBulkAll l
 | []=>by simp[W9,Z6]
 | d::l=>by
  have h1:=zgt d
  have h2:=pQ l
  simp only[W9,Z6,Rows.uptoBulkAll];omega
end
theorem zeP {H:Type}:∀a b:List (DataW H),Rows.uptoBulkAll (a++b)=Rows.uptoBulkAll a+Rows.uptoBulkAll b
 | [],b=>by simp[Rows.uptoBulkAll]
 | x::a,b=>by
  have:=zeP a b
  simp only[List.cons_append,Rows.uptoBulkAll,this];omega
end Go.Proofs.YtognnffjdckalaaGreatDoor
