/- The second form's bound: what a reading's bulk tells of its texts. No condition. -/
import Derived.Test.YtfkcpballfhddaaGreatDoorPDa
import Derived.Test.YtfkcpballfhddaaGreatDoorCards
import Derived.Test.YtfkcpballfhddaaGreatDoorTie
import Derived.Deep.DeepHandedRow
import Derived.Lib.LaidTab
import Derived.Lay
set_option linter.unusedSimpArgs false
set_option linter.unusedVariables false
set_option linter.unusedSectionVars false
set_option maxRecDepth 100000
namespace Go.Proofs.YtfkcpballfhddaaGreatDoor
open Go Go.Ab
open Classical
mutual
def yD:AV->Nat
 | .s l=>l.length+1
 | .agg xs=>Q9 xs+1
 | .sl _ xs=>Q9 xs+1
 | .i _ _=>1
 | _=>0
def Q9:List AV->Nat
 | []=>0
 | x::xs=>yD x+Q9 xs
end
mutual
theorem u5 {H:Type}:∀d:DataW H,yD (W2 d)<=Rows.uptoBulk d
 | .lit (.bool b)=>by simp[W2,yD]
 | .lit (.int k n)=>by simp[W2,yD,Rows.uptoBulk]
 | .lit (.string s)=>by simp[W2,yD,Rows.uptoBulk]
 | .nil=>by simp[W2,yD,Q9,Rows.uptoBulk]
 | .slice es sp=>by
  have:=DW es
  simp only[W2,yD,Rows.uptoBulk];omega
 | .agg ps=>by
  have:=DW ps
  simp only[W2,yD,Rows.uptoBulk];omega
 | .ptr _=>by simp[W2,yD]
 | .iface _ _=>by simp[W2,yD]
 | .map _=>by simp[W2,yD]
 | .held _=>by simp[W2,yD]
 | .lit (.float _ _)=>by simp[W2,yD]
 | .lit .nil=>by simp[W2,yD]
theorem DW {H:Type}:∀l:List (DataW H),Q9 (Y5 l)<=Rows.uptoBulkAll l
 | []=>by simp[Y5,Q9]
 | d::l=>by
  have h1:=u5 d
  have h2:=DW l
  simp only[Y5,Q9,Rows.uptoBulkAll];omega
end
theorem UO {H:Type}:∀a b:List (DataW H),Rows.uptoBulkAll (a++b)=Rows.uptoBulkAll a+Rows.uptoBulkAll b
 | [],b=>by simp[Rows.uptoBulkAll]
 | x::a,b=>by
  have:=UO a b
  simp only[List.cons_append,Rows.uptoBulkAll,this];omega
theorem zbD {x:AV}:∀ {l:List AV},x∈l->yD x<=Q9 l
 | y::l,h=>by
  rcases List.mem_cons.1 h with rfl|h
  ·simp only[Q9];omega
  ·have:=zbD h;simp only[Q9];omega
end Go.Proofs.YtfkcpballfhddaaGreatDoor
