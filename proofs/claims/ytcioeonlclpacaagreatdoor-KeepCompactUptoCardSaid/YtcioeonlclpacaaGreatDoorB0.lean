/- Lemmas of this proof. No condition beyond each theorem's own. -/
import Derived.Test.YtcioeonlclpacaaGreatDoorYFacts
set_option linter.unusedSimpArgs false
set_option linter.unusedVariables false
set_option linter.unusedSectionVars false
set_option maxRecDepth 100000
namespace Go.Proofs.YtcioeonlclpacaaGreatDoor
open Go Go.Ab
open Classical
variable [Sel]
attribute [simp] zkq zfS zN ziV zp7 pQ zbe zlO zdc zbF zou ovV zj2 zgN zjk znE zmF ziB zmO zlN zog zl9 zi6 zhi zf2 zhX zhb zi8 zhv vcD zf1 mkd VH pN zkJ zlI zfW zap D8 zdx zkx zdv zoM zlH zkX zmm zjT zmD St.app Op.operands Call.operands zok zso VH pN yG zlX zJ ev co coC asI asB asS DJ zhC wM jQ k7 G3 D1 yU K4 zi3 unV dH zfK zfY bytesOf PS zeE zir zjp ZV WA zK8 YS yY xX WU P5 xL WC appendN C1 cL zM zoE WF zcR St.put upd zoo zoq zGf znQ ziN zjC zhA zjh zhJ ziT zjD znV zoe KM UC TV.er AV.er AV.ers AV.erk AV.erks Tok.k q8.er_nil q8.er_cons q8.er_app HObj.er_var HObj.er_map q8.keys_nil q8.keys_cons q8.keys_app jM W1 uY zKb zdd zjJ ziE ze7 gD gG zeU zM zbs xR wF QS Z5 qQ entry St.of zX zkB zb8 CM zje zp9 znR undef zjE GR zbs xR vR zi7 zfN dN zmd zgn PV zcI zju zd2 GY zbw zhP zgA isLt sft zj3 XX hop DO zkY XC zbc zc3 ziC zdZ ziK zhF zpp zlK St.escL

abbrev Dig:=List UInt8
def KW (d:Dig):AV:=.agg (d.map fun b=>.i .u8 b.toNat)
structure XF where
 path:List UInt8
 is:Bool
 sum:Dig
deriving DecidableEq
structure Made where
 path:List UInt8
 sum:Dig
deriving DecidableEq
structure zaP where
 key:Dig
 reads:List XF
 outs:List Made
def qI (r:XF):AV:=.agg [.s r.path,.b r.is,KW r.sum]
def qN (r:Made):AV:=.agg [.s r.path,KW r.sum]
def qF (l:List XF):AV:=.sl .no (l.map qI)
def qO (l:List Dig):AV:=.sl .no (l.map KW)
def qJ (l:List Made):AV:=.sl .no (l.map qN)
def qK (t:zaP):AV:=.agg [KW t.key,qF t.reads,qJ t.outs]
def qH (l:List zaP):AV:=.sl .no (l.map qK)
structure znW where
 kind:Int
 path:List UInt8
 i:Int
deriving DecidableEq
def qP (w:znW):AV:=.agg [.i .i64 w.kind,.s w.path,.i .i64 w.i]
@[simp] theorem zmb (d:Dig):(KW d).er=KW d:=by simp[KW,AV.er,AV.ers_eq,Function.comp_def]
@[simp] theorem dJ (r:XF):(qI r).er=qI r:=by simp[qI,AV.er,AV.ers]
@[simp] theorem zed (r:Made):(qN r).er=qN r:=by simp[qN,AV.er,AV.ers]
@[simp] theorem zdY (r:List XF):(qF r).er=qF r:=by simp[qF,AV.er,AV.ers_eq,Function.comp_def]
@[simp] theorem zer (r:List Dig):(qO r).er=qO r:=by simp[qO,AV.er,AV.ers_eq,Function.comp_def]
@[simp] theorem zdE (r:List Made):(qJ r).er=qJ r:=by simp[qJ,AV.er,AV.ers_eq,Function.comp_def]
@[simp] theorem zd4 (r:zaP):(qK r).er=qK r:=by simp[qK,AV.er,AV.ers]
@[simp] theorem zc2 (r:List zaP):(qH r).er=qH r:=by simp[qH,AV.er,AV.ers_eq,Function.comp_def]
@[simp] theorem zfs (r:znW):(qP r).er=qP r:=by simp[qP,AV.er,AV.ers]
@[simp] theorem zpB (x:Dig):(KW x).erk=KW x:=kH _ (zmb x)
@[simp] theorem znj (x:XF):(qI x).erk=qI x:=kH _ (dJ x)
@[simp] theorem zn0 (x:Made):(qN x).erk=qN x:=kH _ (zed x)
@[simp] theorem zlZ (x:List XF):(qF x).erk=qF x:=kH _ (zdY x)
@[simp] theorem zn7 (x:List Dig):(qO x).erk=qO x:=kH _ (zer x)
@[simp] theorem zln (x:List Made):(qJ x).erk=qJ x:=kH _ (zdE x)
@[simp] theorem zlD (x:zaP):(qK x).erk=qK x:=kH _ (zd4 x)
@[simp] theorem zkb (x:List zaP):(qH x).erk=qH x:=kH _ (zc2 x)
@[simp] theorem zni (x:znW):(qP x).erk=qP x:=kH _ (zfs x)
theorem ziF {a b:Dig}:KW a=KW b↔a=b:=by
 constructor
 ·intro h
  simp only[KW,AV.agg.injEq]at h
  refine List.map_inj_right (f:=fun b:UInt8=>AV.i .u8 b.toNat) (fun x y e=>?_) |>.1 h
  simp only[AV.i.injEq,true_and]at e
  exact UInt8.toNat_inj.1 (by exact_mod_cast e)
 ·rintro rfl;rfl
theorem zDL {a b:Dig}:a.map (fun b=>AV.i .u8 b.toNat)=b.map (fun b=>AV.i .u8 b.toNat)↔a=b:=by
 have:=ziF (a:=a) (b:=b)
 simpa[KW]using this
theorem GV {a b:XF}:qI a=qI b↔a=b:=by
 cases a;cases b;simp[qI,ziF]
abbrev cf0:Cfg:=⟨fun _=>false,fun _=>false⟩
theorem i64_in {n:Int} (h0:-9223372036854775808≤n) (h1:n≤9223372036854775807):IntKind.i64.wrap n=n:=IntWalk.i64_in _ ⟨h0,h1⟩
@[simp] theorem Z2 {α:Type} {xs:List α} {k:Nat} (hlt:k<xs.length) {q:α→Prop}:(∀x∈xs.take (k+1),q x)↔(∀x∈xs.take k,q x)∧q xs[k]:=by
 rw[List.take_succ_eq_append_getElem hlt]
 simp only[List.mem_append,List.mem_singleton]
 exact⟨fun h=>⟨fun x hx=>h x (.inl hx),h _ (.inr rfl)⟩,fun h x hx=>hx.elim (h.1 x) (fun e=>e▸h.2)⟩
end Go.Proofs.YtcioeonlclpacaaGreatDoor
