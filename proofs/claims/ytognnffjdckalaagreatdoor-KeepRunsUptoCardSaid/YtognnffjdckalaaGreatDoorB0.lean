/- Lemmas of this proof. No condition. -/
import Derived.Test.YtognnffjdckalaaGreatDoorYFacts
set_option linter.unusedSimpArgs false
set_option linter.unusedVariables false
set_option linter.unusedSectionVars false
set_option maxRecDepth 100000
namespace Go.Proofs.YtognnffjdckalaaGreatDoor
open Go Go.Ab
open Classical
variable [Sel]
attribute [simp] zoU zjd zN zmP zrW cA zeq zpe DO zdH zpf ovV zlk zkI zls zqO zpn zmS zpb zoM zqC zpO zlO zkQ zhB znv zjM zmA zjF vcD zhb mkd V9 cE zp4 zpv ziT zcA zab zeW zol zgi zqY zoT zoK zoV zmi zq5 St.app Op.operands Call.operands zqQ ztx V9 cE yD zpE z8 ev co coC asI asB asS CJ zlb wL jC jS PW zbE yZ xQ zlw unV CG ziC zjp bytesOf zaH zhg znu zob JE YQ xF xZ yT JL YN G3 XR XO appendN zaZ CE zM zrj YY zgE St.put upd zqW zrt zrw zqS zlV zmG znG zng zn1 zoh zlR zqB zra YG pI TV.er AV.er AV.ers AV.erk AV.erks Tok.k q7.er_nil q7.er_cons q7.er_app HObj.er_var HObj.er_map q7.keys_nil q7.keys_cons q7.keys_app zU jZ V1 xH znB zm5 zoc zgX pP UJ zi5 zM zdQ uJ wH Q1 QB qH entry St.of jF zpw zd1 zbX zly zsc zqX undef zmb D6 zdQ uJ G8 zmt zja zaM zp6 ziZ uY zgM zn0 zgD dM zeL zlJ zk1 isLt sft znX zbh hop zbf zoq DF zdJ zeH znV zga zmB zmU zs6 zpm St.escL
abbrev Dig:=List UInt8
def qK (d:Dig):AV:=.agg (d.map fun b=>.i .u8 b.toNat)
structure yH where
 path:List UInt8
 is:Bool
 sum:Dig
deriving DecidableEq
structure Made where
 path:List UInt8
 sum:Dig
deriving DecidableEq
structure qD where
 key:Dig
 reads:List yH
 outs:List Made
def qV (r:yH):AV:=.agg [.s r.path,.b r.is,qK r.sum]
def qS (r:Made):AV:=.agg [.s r.path,qK r.sum]
def qE (l:List yH):AV:=.sl .no (l.map qV)
def kD (l:List Dig):AV:=.sl .no (l.map qK)
def qF (l:List Made):AV:=.sl .no (l.map qS)
def q5 (t:qD):AV:=.agg [qK t.key,qE t.reads,qF t.outs]
def qU (l:List qD):AV:=.sl .no (l.map q5)
structure zp9 where
 kind:Int
 path:List UInt8
 i:Int
deriving DecidableEq
def JC (w:zp9):AV:=.agg [.i .i64 w.kind,.s w.path,.i .i64 w.i]
@[simp] theorem vZ (d:Dig):(qK d).er=qK d:=by simp[qK,AV.er,AV.ers_eq,Function.comp_def]
@[simp] theorem zhH (r:yH):(qV r).er=qV r:=by simp[qV,AV.er,AV.ers]
@[simp] theorem zha (r:Made):(qS r).er=qS r:=by simp[qS,AV.er,AV.ers]
@[simp] theorem zf1 (r:List yH):(qE r).er=qE r:=by simp[qE,AV.er,AV.ers_eq,Function.comp_def]
@[simp] theorem zhN (r:List Dig):(kD r).er=kD r:=by simp[kD,AV.er,AV.ers_eq,Function.comp_def]
@[simp] theorem zfT (r:List Made):(qF r).er=qF r:=by simp[qF,AV.er,AV.ers_eq,Function.comp_def]
@[simp] theorem QP (r:qD):(q5 r).er=q5 r:=by simp[q5,AV.er,AV.ers]
@[simp] theorem QX (r:List qD):(qU r).er=qU r:=by simp[qU,AV.er,AV.ers_eq,Function.comp_def]
@[simp] theorem zh5 (r:zp9):(JC r).er=JC r:=by simp[JC,AV.er,AV.ers]
@[simp] theorem zrM (x:Dig):(qK x).erk=qK x:=wD _ (vZ x)
@[simp] theorem zqs (x:yH):(qV x).erk=qV x:=wD _ (zhH x)
@[simp] theorem zqn (x:Made):(qS x).erk=qS x:=wD _ (zha x)
@[simp] theorem zoX (x:List yH):(qE x).erk=qE x:=wD _ (zf1 x)
@[simp] theorem zqA (x:List Dig):(kD x).erk=kD x:=wD _ (zhN x)
@[simp] theorem zpV (x:List Made):(qF x).erk=qF x:=wD _ (zfT x)
@[simp] theorem zpT (x:qD):(q5 x).erk=q5 x:=wD _ (QP x)
@[simp] theorem zoj (x:List qD):(qU x).erk=qU x:=wD _ (QX x)
@[simp] theorem zq8 (x:zp9):(JC x).erk=JC x:=wD _ (zh5 x)
theorem J4 {a b:Dig}:qK a=qK b<->a=b:=by
 constructor
 ·intro h
  simp only[qK,AV.agg.injEq]at h
  refine List.map_inj_right (f:=fun b:UInt8=>AV.i .u8 b.toNat) (fun x y e=>?_) |>.1 h
  simp only[AV.i.injEq,true_and]at e
  exact UInt8.toNat_inj.1 (by exact_mod_cast e)
 ·rintro rfl;rfl
theorem j9 {a b:Dig}:a.map (fun b=>AV.i .u8 b.toNat)=b.map (fun b=>AV.i .u8 b.toNat)<->a=b:=by
 have:=J4 (a:=a) (b:=b)
 simpa[qK]using this
theorem x6 {a b:yH}:qV a=qV b<->a=b:=by
 cases a;cases b;simp[qV,J4]
abbrev cf0:Cfg:=⟨fun _=>false,fun _=>false⟩
theorem i64_in {n:Int} (h0:-9223372036854775808<=n) (h1:n<=9223372036854775807):IntKind.i64.wrap n=n:=IntWalk.i64_in _ ⟨h0,h1⟩
@[simp] theorem xJ {α:Type} {xs:List α} {k:Nat} (hlt:k<xs.length) {q:α->Prop}:(∀x∈xs.take (k+1),q x)<->(∀x∈xs.take k,q x)/\q xs[k]:=by
 rw[List.take_succ_eq_append_getElem hlt]
 simp only[List.mem_append,List.mem_singleton]
 exact⟨fun h=>⟨fun x hx=>h x (.inl hx),h _ (.inr rfl)⟩,fun h x hx=>hx.elim (h.1 x) (fun e=>e▸h.2)⟩
end Go.Proofs.YtognnffjdckalaaGreatDoor
