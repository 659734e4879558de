/- The second form's bound: what a reading's bulk tells of its texts. No condition. -/
import Derived.Test.YtdkieabmeiojjaaGreatDoorSB9ToPDa
import Derived.Test.YtdkieabmeiojjaaGreatDoorCards
import Derived.Test.YtdkieabmeiojjaaGreatDoorTie
import Derived.Deep.DeepHandedRow
import Derived.Lay
set_option linter.unusedSimpArgs false
set_option linter.unusedVariables false
set_option linter.unusedSectionVars false
set_option maxRecDepth 100000
namespace Go.Proofs.YtdkieabmeiojjaaGreatDoor
open Go Go.Ab
open Classical
mutual
def WP:AV->Nat
 | .s l=>l.length+1
 | .agg xs=>V1 xs+1
 | .sl _ xs=>V1 xs+1
 | .i _ _=>1
 | _=>0
def V1:List AV->Nat
 | []=>0
 | x::xs=>WP x+V1 xs
end
mutual
theorem zlB {H:Type}:∀d:DataW H,WP (JQ d)<=Rows.uptoBulk d
 | .lit (.bool b)=>by simp[JQ,WP]
 | .lit (.int k n)=>by simp[JQ,WP,Rows.uptoBulk]
 | .lit (.string s)=>by simp[JQ,WP,Rows.uptoBulk]
 | .nil=>by simp[JQ,WP,V1,Rows.uptoBulk]
 | .slice es sp=>by
  have:=GK es
  simp only[JQ,WP,Rows.uptoBulk];omega
 | .agg ps=>by
  have:=GK ps
  simp only[JQ,WP,Rows.uptoBulk];omega
 | .ptr _=>by simp[JQ,WP]
 | .iface _ _=>by simp[JQ,WP]
 | .map _=>by simp[JQ,WP]
 | .held _=>by simp[JQ,WP]
 | .lit (.float _ _)=>by simp[JQ,WP]
 | .lit .nil=>by simp[JQ,WP]
theorem GK {H:Type}:∀l:List (DataW H),V1 (KP l)<=Rows.uptoBulkAll l
 | []=>by simp[KP,V1]
 | d::l=>by
  have h1:=zlB d
  have h2:=GK l
  simp only[KP,V1,Rows.uptoBulkAll];omega
end
theorem zs0 {H:Type}:∀a b:List (DataW H),Rows.uptoBulkAll (a++b)=Rows.uptoBulkAll a+Rows.uptoBulkAll b
 | [],b=>by simp[Rows.uptoBulkAll]
 | x::a,b=>by
  have:=zs0 a b
  simp only[List.cons_append,Rows.uptoBulkAll,this];omega
theorem zrr {x:AV}:∀ {l:List AV},x∈l->WP x<=V1 l
 | y::l,h=>by
  rcases List.mem_cons.1 h with rfl|h
  ·simp only[V1];omega
  ·have:=zrr h;simp only[V1];omega
end Go.Proofs.YtdkieabmeiojjaaGreatDoor
