/- Lemmas of this proof. No condition. -/
import Derived.Test.YtfkcpballfhddaaGreatDoorYFacts
set_option linter.unusedSimpArgs false
set_option linter.unusedVariables false
set_option linter.unusedSectionVars false
set_option maxRecDepth 100000
namespace Go.Proofs.YtfkcpballfhddaaGreatDoor
open Go Go.Ab
open Classical
variable [Sel]
attribute [simp] zq0 zjX zN zne zsW zab P7 zeu zoh zaU zdV zrI ovV zmg zjY zmd zqZ zq2 znO zpH zq6 zrL zpP znQ zkD ziF zn4 zlB zop zkx vcD zi8 mkd gD zac zoT zqg zje zcF zbA zfE zqm zg5 zru zpO zqk zpT znA zoZ St.app Op.operands Call.operands zr3 ztu gD zac yQ zpU zQ ev co coC asI asB asS zbR zlY yB kC kP D7 zb3 QQ X9 zmT unV zay zju zjz bytesOf zbq zix zoQ zoz JP X3 xN XY yK WG X2 pL uI U6 VG cM dG zM zrC xP zf1 St.put upd zrH zr8 zrz zr2 zmO znN zmw zm0 zmG zm4 znn zrJ zr4 YD UY TV.er AV.er AV.ers AV.erk AV.erks Tok.k q8.er_nil q8.er_cons q8.er_app HObj.er_var HObj.er_map q8.keys_nil q8.keys_cons q8.keys_app k8 jW gK X6 zmX zmB znF zhM D5 V1 zhK zM zdY UC y7 QR J0 qI entry St.of qJ zpF zdK zcz zm7 zrX zri undef zmV C4 zdY UC PU znf zjc zbH zpK zj2 zas zeX zmj zfw cT zee zlG zkR isLt sft zmb vE hop zaN zpm V3 ze0 zdR znd zf9 zlJ zo4 zsv zqp St.escL
abbrev Dig:=List UInt8
def W0 (d:Dig):AV:=.agg (d.map fun b=>.i .u8 b.toNat)
structure xE where
 path:List UInt8
 is:Bool
 sum:Dig
deriving DecidableEq
structure Made where
 path:List UInt8
 sum:Dig
deriving DecidableEq
structure cI where
 key:Dig
 reads:List xE
 outs:List Made
def zG (r:xE):AV:=.agg [.s r.path,.b r.is,W0 r.sum]
def KO (r:Made):AV:=.agg [.s r.path,W0 r.sum]
def zO (l:List xE):AV:=.sl .no (l.map zG)
def Y9 (l:List Dig):AV:=.sl .no (l.map W0)
def ZV (l:List Made):AV:=.sl .no (l.map KO)
def J2 (t:cI):AV:=.agg [W0 t.key,zO t.reads,ZV t.outs]
def J5 (l:List cI):AV:=.sl .no (l.map J2)
structure zpE where
 kind:Int
 path:List UInt8
 i:Int
deriving DecidableEq
def YH (w:zpE):AV:=.agg [.i .i64 w.kind,.s w.path,.i .i64 w.i]
@[simp] theorem zpY (d:Dig):(W0 d).er=W0 d:=by simp[W0,AV.er,AV.ers_eq,Function.comp_def]
@[simp] theorem zbO (r:xE):(zG r).er=zG r:=by simp[zG,AV.er,AV.ers]
@[simp] theorem zi0 (r:Made):(KO r).er=KO r:=by simp[KO,AV.er,AV.ers]
@[simp] theorem WU (r:List xE):(zO r).er=zO r:=by simp[zO,AV.er,AV.ers_eq,Function.comp_def]
@[simp] theorem zi2 (r:List Dig):(Y9 r).er=Y9 r:=by simp[Y9,AV.er,AV.ers_eq,Function.comp_def]
@[simp] theorem zgb (r:List Made):(ZV r).er=ZV r:=by simp[ZV,AV.er,AV.ers_eq,Function.comp_def]
@[simp] theorem zeV (r:cI):(J2 r).er=J2 r:=by simp[J2,AV.er,AV.ers]
@[simp] theorem zeN (r:List cI):(J5 r).er=J5 r:=by simp[J5,AV.er,AV.ers_eq,Function.comp_def]
@[simp] theorem ziu (r:zpE):(YH r).er=YH r:=by simp[YH,AV.er,AV.ers]
@[simp] theorem zsw (x:Dig):(W0 x).erk=W0 x:=kX _ (zpY x)
@[simp] theorem zqI (x:xE):(zG x).erk=zG x:=kX _ (zbO x)
@[simp] theorem zqL (x:Made):(KO x).erk=KO x:=kX _ (zi0 x)
@[simp] theorem zqd (x:List xE):(zO x).erk=zO x:=kX _ (WU x)
@[simp] theorem zqD (x:List Dig):(Y9 x).erk=Y9 x:=kX _ (zi2 x)
@[simp] theorem zpo (x:List Made):(ZV x).erk=ZV x:=kX _ (zgb x)
@[simp] theorem zpN (x:cI):(J2 x).erk=J2 x:=kX _ (zeV x)
@[simp] theorem zoS (x:List cI):(J5 x).erk=J5 x:=kX _ (zeN x)
@[simp] theorem zqr (x:zpE):(YH x).erk=YH x:=kX _ (ziu x)
theorem zoo {a b:Dig}:W0 a=W0 b<->a=b:=by
 constructor
 ·intro h
  simp only[W0,AV.agg.injEq]at h
  refine List.map_inj_right (f:=fun b:UInt8=>AV.i .u8 b.toNat) (fun x y e=>?_) |>.1 h
  simp only[AV.i.injEq,true_and]at e
  exact UInt8.toNat_inj.1 (by exact_mod_cast e)
 ·rintro rfl;rfl
theorem xV {a b:xE}:zG a=zG b<->a=b:=by
 cases a;cases b;simp[zG,zoo]
abbrev cf0:Cfg:=⟨fun _=>false,fun _=>false⟩
theorem i64_in {n:Int} (h0:-9223372036854775808<=n) (h1:n<=9223372036854775807):IntKind.i64.wrap n=n:=IntWalk.i64_in _ ⟨h0,h1⟩
@[simp] theorem yG {α:Type} {xs:List α} {k:Nat} (hlt:k<xs.length) {q:α->Prop}:(∀x∈xs.take (k+1),q x)<->(∀x∈xs.take k,q x)/\q xs[k]:=by
 rw[List.take_succ_eq_append_getElem hlt]
 simp only[List.mem_append,List.mem_singleton]
 exact⟨fun h=>⟨fun x hx=>h x (.inl hx),h _ (.inr rfl)⟩,fun h x hx=>hx.elim (h.1 x) (fun e=>e▸h.2)⟩
end Go.Proofs.YtfkcpballfhddaaGreatDoor
