/- What the rows' lists of tables give; the witness's values. No condition. -/
import Derived.Test.YtognnffjdckalaaGreatDoorPT0
set_option linter.unusedSimpArgs false
set_option linter.unusedVariables false
set_option linter.unusedSectionVars false
set_option maxRecDepth 100000
namespace Go.Proofs.YtognnffjdckalaaGreatDoor
open Go Go.Ab
open Classical
theorem znA [Sel] {W:World} {name nm:String} {x:DataW Unit} {g:Nat} {ti:TypeId} {ms:Array (String × TypeId)} (hno:(DataW.iface nm x).handleName?=none) (hg:Tryz.prog.globalNamed name=some g) (ht:(Tryz.prog.globals[g]?).map (·.type)=some ti) (hu:Tryz.prog.underlying ti=some (.interface ms))
  (h:laidMetH Tryz.prog [(name,.iface nm x)] W):zqu (Z2 W) W g:=by
 have h1:laidMet Tryz.prog [(name,.iface nm x)] W:=by
  unfold laidMetH at h
  simpa[List.filter,hno]using h
 obtain⟨ps,hv,_,_⟩:=h1
 obtain⟨g',t,cs,fuel,p,q,e1,e2,e3,e4,_⟩:=hv
 rw[hg]at e1;cases e1
 rw[ht]at e2;cases e2
 obtain⟨_,u,v,hcs,_⟩:=iface_of_trod hu e4
 unfold World.var? at e3
 rw[hg]at e3
 simp only[Option.bind_some]at e3
 split at e3
 ·rename_i cs' E fz hh
  cases e3
  have hlen:cs.size=1:=by rw[<-Array.length_toList,hcs];rfl
  refine⟨by simp only[Z2,hh,hlen];decide,cs,E,fz,.iface u v,hh,?_,.inr ⟨u,v,rfl⟩⟩
  rw[<-Array.getElem?_toList,hcs];rfl
 ·cases e3
theorem zrU [Sel] (hi:cZ Tryz.prog=[]:=by kernel_rfl) {laid:List (String × DataW Unit)} {W:World} (h:laidMetH Tryz.prog laid W) (ht:zdM Tryz.prog=[(1,TyD.arr 20 218,AV.agg (Lib.pow10Tab.map (AV.i .u64 ·)))]) (he:JD Tryz.prog=[4,5]\/JD Tryz.prog=[5,4])
  (hp:laid.filter (fun x=>x.1 == "internal/strconv.uint64pow10")=[("internal/strconv.uint64pow10",Rows.laid_internal_strconv_uint64pow10)])
  (hs:laid.filter (fun x=>x.1 == "strconv.ErrSyntax")=[("strconv.ErrSyntax",Rows.laid_strconv_ErrSyntax)]) (hr:laid.filter (fun x=>x.1 == "strconv.ErrRange")=[("strconv.ErrRange",Rows.laid_strconv_ErrRange)]):XD Tryz.prog (Z2 W) W:=by
 refine⟨zr4 ht (Lib.tabIs_of_head (rest:=[]) zqb (t:=299) (e:=218) (n:=20) (by kernel_rfl) (by kernel_rfl) (by kernel_rfl) (by kernel_rfl) (by kernel_rfl) ?_),?_,fun n hn=>by rw[hi]at hn;cases hn⟩
 ·have:=h.filter (fun x=>x.1 == "internal/strconv.uint64pow10")
  rw[hp]at this
  exact this
 ·intro n hn
  have hn:n=4\/n=5:=by
   rcases he with he|he<;>rw[he]at hn<;>simp only[List.mem_cons,List.not_mem_nil,or_false]at hn
   ·exact hn
   ·exact hn.symm
  rcases hn with rfl|rfl
  ·have:=h.filter (fun x=>x.1 == "strconv.ErrSyntax")
   rw[hs]at this
   exact znA (name:="strconv.ErrSyntax") (nm:="*errors.errorString") (x:=.ptr (.agg [.lit (.string [105,110,118,97,108,105,100,32,115,121,110,116,97,120])])) (ti:=180) rfl (by kernel_rfl) (by kernel_rfl) (Tryz.underlying180) this
  ·have:=h.filter (fun x=>x.1 == "strconv.ErrRange")
   rw[hr]at this
   exact znA (name:="strconv.ErrRange") (nm:="*errors.errorString") (x:=.ptr (.agg [.lit (.string [118,97,108,117,101,32,111,117,116,32,111,102,32,114,97,110,103,101])])) (ti:=180) rfl (by kernel_rfl) (by kernel_rfl) (Tryz.underlying180) this
end Go.Proofs.YtognnffjdckalaaGreatDoor
