/- What the rows' lists of tables give, and a number of the library's own. No condition. -/
import Derived.Test.YtfkcpballfhddaaGreatDoorPT0
set_option linter.unusedSimpArgs false
set_option linter.unusedVariables false
set_option linter.unusedSectionVars false
set_option maxRecDepth 100000
namespace Go.Proofs.YtfkcpballfhddaaGreatDoor
open Go Go.Ab
open Classical
theorem zpX {W:World} (hsh:W.ShapedOpen Tryz.prog):zqJ (J8 W) W 2:=by
 obtain⟨m,hm⟩:=cell_of_shapedOpen_int (P:=Tryz.prog) (g:=2) (t:=3) (zero:=#[.int .i64 0]) hsh (of_decide_eq_true (by kernel_rfl)) (by kernel_rfl) rfl (by kernel_rfl) (by kernel_rfl) Tryz.underlying3
 unfold World.cell? at hm
 simp only at hm
 split at hm
 ·rename_i cs E fz hh
  simp only[Option.isSome_none,Bool.false_eq_true,if_false]at hm
  have hlt:0<cs.size:=(Array.getElem?_eq_some_iff.1 hm).1
  exact⟨by simp only[J8,hh];exact hlt,cs,E,fz,m,hh,hm⟩
 ·cases hm
theorem zjk [Sel] {laid:List (String × DataW Unit)} {W:World} (h:laidMetH Tryz.prog laid W) (hsh:W.ShapedOpen Tryz.prog) (hi:VP Tryz.prog=[2]) (ht:zf3 Tryz.prog=[(3,TyD.arr 20 128,AV.agg (Lib.pow10Tab.map (AV.i .u64 ·)))]) (he:zet Tryz.prog=[])
  (hp:laid.filter (fun x=>x.1 == "internal/strconv.uint64pow10")=[("internal/strconv.uint64pow10",Rows.laid_internal_strconv_uint64pow10)]):UA Tryz.prog (J8 W) W:=by
 refine⟨zrc ht (Lib.tabIs_of_head (rest:=[]) zqy (t:=266) (e:=128) (n:=20) (by kernel_rfl) (by kernel_rfl) (by kernel_rfl) (by kernel_rfl) (by kernel_rfl) ?_),?_,fun n hn=>?_⟩
 ·have:=h.filter (fun x=>x.1 == "internal/strconv.uint64pow10")
  rw[hp]at this
  exact this
 ·intro n hn
  rw[he]at hn
  cases hn
 ·rw[hi]at hn
  rw[List.mem_singleton.1 hn]
  exact zpX hsh
end Go.Proofs.YtfkcpballfhddaaGreatDoor
