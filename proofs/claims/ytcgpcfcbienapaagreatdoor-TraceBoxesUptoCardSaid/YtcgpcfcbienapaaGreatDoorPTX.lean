/- What the rows' lists of tables give; the witness's values. No condition beyond each theorem's own. -/
import Derived.Test.YtcgpcfcbienapaaGreatDoorPT
import Derived.Test.YtcgpcfcbienapaaGreatDoorPTM
set_option linter.unusedSimpArgs false
set_option linter.unusedVariables false
set_option linter.unusedSectionVars false
set_option maxRecDepth 100000
/-! What the rows' lists of tables give; the witness's values. -/
namespace Go.Proofs.YtcgpcfcbienapaaGreatDoor
open Go Go.Ab
open Classical


theorem zGm [Sel] {laid:List (String × DataW Unit)} {W:World} (h:laidMetH Tryz.prog laid W) (hsh:W.ShapedOpen Tryz.prog) (hi:uM Tryz.prog=[1]) (ht:zcT Tryz.prog=[(0,TyD.arr 20 127,AV.agg (Lib.pow10Tab.map (AV.i .u64 ·)))]) (he:zbW Tryz.prog=[4,5]∨zbW Tryz.prog=[5,4])
  (hp:laid.filter (fun x=>x.1 == "internal/strconv.uint64pow10")=[("internal/strconv.uint64pow10",Rows.laid_internal_strconv_uint64pow10)])
  (hs:laid.filter (fun x=>x.1 == "strconv.ErrSyntax")=[("strconv.ErrSyntax",Rows.laid_strconv_ErrSyntax)]) (hr:laid.filter (fun x=>x.1 == "strconv.ErrRange")=[("strconv.ErrRange",Rows.laid_strconv_ErrRange)]):xV Tryz.prog (QU W) W:=by
 refine⟨zoI ht (Lib.tabIs_of_head (rest:=[]) zn3 (t:=260) (e:=127) (n:=20) (by kernel_rfl) (by kernel_rfl) (by kernel_rfl) (by kernel_rfl) (by kernel_rfl) ?_),?_,fun n hn=>by rw[hi]at hn;rw[List.mem_singleton.1 hn];exact zl0 hsh⟩
 ·have:=h.filter (fun x=>x.1 == "internal/strconv.uint64pow10")
  rw[hp]at this
  exact this
 ·intro n hn
  have hn:n=4∨n=5:=by
   rcases he with he|he<;>rw[he]at hn<;>simp only[List.mem_cons,List.not_mem_nil,or_false]at hn
   ·exact hn
   ·exact hn.symm
  rcases hn with rfl|rfl
  ·have:=h.filter (fun x=>x.1 == "strconv.ErrSyntax")
   rw[hs]at this
   exact zFC (name:="strconv.ErrSyntax") (nm:="*errors.errorString") (x:=.ptr (.agg [.lit (.string [105,110,118,97,108,105,100,32,115,121,110,116,97,120])])) (ti:=161) rfl (by kernel_rfl) (by kernel_rfl) (Tryz.underlying161) this
  ·have:=h.filter (fun x=>x.1 == "strconv.ErrRange")
   rw[hr]at this
   exact zFC (name:="strconv.ErrRange") (nm:="*errors.errorString") (x:=.ptr (.agg [.lit (.string [118,97,108,117,101,32,111,117,116,32,111,102,32,114,97,110,103,101])])) (ti:=161) rfl (by kernel_rfl) (by kernel_rfl) (Tryz.underlying161) this
end Go.Proofs.YtcgpcfcbienapaaGreatDoor
