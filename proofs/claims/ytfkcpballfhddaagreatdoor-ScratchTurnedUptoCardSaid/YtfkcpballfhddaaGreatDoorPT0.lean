/- What the rows' lists of tables give; the witness's values. No condition. -/
import Derived.Test.YtfkcpballfhddaaGreatDoorPB
import Derived.Test.YtfkcpballfhddaaGreatDoorQ0ToK5
set_option linter.unusedSimpArgs false
set_option linter.unusedVariables false
set_option linter.unusedSectionVars false
set_option maxRecDepth 100000
namespace Go.Proofs.YtfkcpballfhddaaGreatDoor
open Go Go.Ab
open Classical
theorem zqy:Tryz.prog.globalNamed "internal/strconv.uint64pow10" = some 3:=by kernel_rfl
theorem zdr {P:Program} {g:Gh} {w:World} {e:TypeId} (he:q9 P e=.int .u64):∀(zs:List Int),VL P g w e (zs.map (AV.i .u64 ·)) (zs.map (Value.int .u64 ·))
 | []=>by simp[VL]
 | z::zs=>by
  simp only[List.map_cons,VL]
  exact⟨[.int .u64 z],_,rfl,by simp[VC,he],zdr he zs⟩
theorem zrc [Sel] (ht:zf3 Tryz.prog=[(3,TyD.arr 20 128,AV.agg (Lib.pow10Tab.map (AV.i .u64 ·)))]) {W:World} (h:Lib.TabIs Tryz.prog W "internal/strconv.uint64pow10" .u64 Lib.pow10Tab):∀n d x,(n,d,x)∈zf3 Tryz.prog->Go.Ab.szD Tryz.prog d<=J8 W n/\VC Tryz.prog (g0 (J8 W)) W d x (zU W n 0 (Go.Ab.szD Tryz.prog d))/\0<Go.Ab.szD Tryz.prog d/\∃cs E fz,W.heap[n]?=some (.cells cs E fz)/\cs.size=Go.Ab.szD Tryz.prog d:=by
 intro n d x hx
 rw[ht]at hx
 simp only[List.mem_singleton,Prod.mk.injEq]at hx
 obtain⟨rfl,rfl,rfl⟩:=hx
 have hsz:Go.Ab.szD Tryz.prog (.arr 20 128)=20:=by simp[Go.Ab.szD]
 unfold Lib.TabIs World.var? at h
 rw[zqy]at h
 simp only[Option.bind_some]at h
 split at h
 ·rename_i cs E fz hh
  obtain rfl:=Option.some.inj h
  have hlen:(Lib.pow10Tab.map fun z=>Value.int .u64 z).toArray.size=20:=by simp[Lib.pow10Tab]
  have hi:J8 W 3=20:=by simp only[J8,hh];exact hlen
  refine⟨by rw[hsz,hi];exact Nat.le_refl _,?_,by rw[hsz];decide,_,_,_,hh,hlen.trans hsz.symm⟩
  have hc:zU W 3 0 20=Lib.pow10Tab.map fun z=>Value.int .u64 z:=by
   unfold zU
   rw[hh]
   simp only[List.drop_zero]
   exact List.take_of_length_le (by simp[Lib.pow10Tab])
  rw[hsz,hc]
  simp only[VC]
  exact⟨by simp[Lib.pow10Tab],zdr (by simp) _⟩
 ·cases h
end Go.Proofs.YtfkcpballfhddaaGreatDoor
