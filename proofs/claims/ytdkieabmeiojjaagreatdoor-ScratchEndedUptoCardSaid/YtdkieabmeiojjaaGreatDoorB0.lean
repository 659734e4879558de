/- Lemmas of this proof. No condition. -/
import Derived.Test.YtdkieabmeiojjaaGreatDoorYFacts
set_option linter.unusedSimpArgs false
set_option linter.unusedVariables false
set_option linter.unusedSectionVars false
set_option maxRecDepth 100000
namespace Go.Proofs.YtdkieabmeiojjaaGreatDoor
open Go Go.Ab
open Classical
variable [Sel]
attribute [simp] znf zgs zN zjU zp1 dC G3 zcG zkk C3 zcB zo0 ovV zlP ziq zjP zoL zm7 zjn zna zn7 zoe zmI zl7 zhL zgj zlA zhK zkc zhA vcD zfs mkd US PZ zm8 zn4 zgD zbu cB zdt zml zdQ zo5 zma zmV znj zlc zmG St.app Op.operands Call.operands zou zqb US PZ wY zmj z8 ev co coC asI asB asS CS zk6 wI jF jT pE DZ yQ YG zj2 unV CN zhh zhm bytesOf C5 zfH zlq zkC ZN WU Y4 xE wQ K3 WO VY xT xX U3 pV GB zM zoq YB zee St.put upd zoS zoR znV zoB zjC zkg zlF zj3 zkn zkF zko zof zoz KT uV TV.er AV.er AV.ers AV.erk AV.erks Tok.k q8.er_nil q8.er_cons q8.er_app HObj.er_var HObj.er_map q8.keys_nil q8.keys_cons q8.keys_app zZ j9 UM YP zjT zlG zjy zfJ GG uB zfm zM zco XB wD yW QR qE entry St.of z6 zng zbp zaI zjm zpz zoi undef zkZ PE zco XB G4 zlz zgO za1 zmi zgS DD zdV zlH zdg PI zcP zkS zir isLt sft zk8 XN hop cY zn0 XT zcl zcI zkR zdL zkb zjZ zpq zmJ St.escL
abbrev Dig:=List UInt8
def JG (d:Dig):AV:=.agg (d.map fun b=>.i .u8 b.toNat)
structure KH where
 path:List UInt8
 is:Bool
 sum:Dig
deriving DecidableEq
structure Made where
 path:List UInt8
 sum:Dig
deriving DecidableEq
structure PK where
 key:Dig
 reads:List KH
 outs:List Made
def qX (r:KH):AV:=.agg [.s r.path,.b r.is,JG r.sum]
def J0 (r:Made):AV:=.agg [.s r.path,JG r.sum]
def zC (l:List KH):AV:=.sl .no (l.map qX)
def KW (l:List Dig):AV:=.sl .no (l.map JG)
def QM (l:List Made):AV:=.sl .no (l.map J0)
def QU (t:PK):AV:=.agg [JG t.key,zC t.reads,QM t.outs]
def QZ (l:List PK):AV:=.sl .no (l.map QU)
structure zmD where
 kind:Int
 path:List UInt8
 i:Int
deriving DecidableEq
def KZ (w:zmD):AV:=.agg [.i .i64 w.kind,.s w.path,.i .i64 w.i]
@[simp] theorem zm5 (d:Dig):(JG d).er=JG d:=by simp[JG,AV.er,AV.ers_eq,Function.comp_def]
@[simp] theorem C0 (r:KH):(qX r).er=qX r:=by simp[qX,AV.er,AV.ers]
@[simp] theorem zg8 (r:Made):(J0 r).er=J0 r:=by simp[J0,AV.er,AV.ers]
@[simp] theorem YA (r:List KH):(zC r).er=zC r:=by simp[zC,AV.er,AV.ers_eq,Function.comp_def]
@[simp] theorem zeY (r:List Dig):(KW r).er=KW r:=by simp[KW,AV.er,AV.ers_eq,Function.comp_def]
@[simp] theorem ze3 (r:List Made):(QM r).er=QM r:=by simp[QM,AV.er,AV.ers_eq,Function.comp_def]
@[simp] theorem zd1 (r:PK):(QU r).er=QU r:=by simp[QU,AV.er,AV.ers]
@[simp] theorem zcJ (r:List PK):(QZ r).er=QZ r:=by simp[QZ,AV.er,AV.ers_eq,Function.comp_def]
@[simp] theorem zg6 (r:zmD):(KZ r).er=KZ r:=by simp[KZ,AV.er,AV.ers]
@[simp] theorem zpP (x:Dig):(JG x).erk=JG x:=k8 _ (zm5 x)
@[simp] theorem zny (x:KH):(qX x).erk=qX x:=k8 _ (C0 x)
@[simp] theorem znq (x:Made):(J0 x).erk=J0 x:=k8 _ (zg8 x)
@[simp] theorem zmS (x:List KH):(zC x).erk=zC x:=k8 _ (YA x)
@[simp] theorem znB (x:List Dig):(KW x).erk=KW x:=k8 _ (zeY x)
@[simp] theorem zmn (x:List Made):(QM x).erk=QM x:=k8 _ (ze3 x)
@[simp] theorem zmN (x:PK):(QU x).erk=QU x:=k8 _ (zd1 x)
@[simp] theorem zlT (x:List PK):(QZ x).erk=QZ x:=k8 _ (zcJ x)
@[simp] theorem znS (x:zmD):(KZ x).erk=KZ x:=k8 _ (zg6 x)
theorem zks {a b:Dig}:JG a=JG b<->a=b:=by
 constructor
 ·intro h
  simp only[JG,AV.agg.injEq]at h
  refine List.map_inj_right (f:=fun b:UInt8=>AV.i .u8 b.toNat) (fun x y e=>?_) |>.1 h
  simp only[AV.i.injEq,true_and]at e
  exact UInt8.toNat_inj.1 (by exact_mod_cast e)
 ·rintro rfl;rfl
theorem WZ {a b:KH}:qX a=qX b<->a=b:=by
 cases a;cases b;simp[qX,zks]
abbrev cf0:Cfg:=⟨fun _=>false,fun _=>false⟩
theorem i64_in {n:Int} (h0:-9223372036854775808<=n) (h1:n<=9223372036854775807):IntKind.i64.wrap n=n:=IntWalk.i64_in _ ⟨h0,h1⟩
@[simp] theorem yC {α:Type} {xs:List α} {k:Nat} (hlt:k<xs.length) {q:α->Prop}:(∀x∈xs.take (k+1),q x)<->(∀x∈xs.take k,q x)/\q xs[k]:=by
 rw[List.take_succ_eq_append_getElem hlt]
 simp only[List.mem_append,List.mem_singleton]
 exact⟨fun h=>⟨fun x hx=>h x (.inl hx),h _ (.inr rfl)⟩,fun h x hx=>hx.elim (h.1 x) (fun e=>e▸h.2)⟩
end Go.Proofs.YtdkieabmeiojjaaGreatDoor
