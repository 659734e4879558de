/- Lemmas of this proof. No condition beyond each theorem's own. -/
import Derived.Test.YthdgnfnalimcnaaGreatDoorYFacts
set_option linter.unusedSimpArgs false
set_option linter.unusedVariables false
set_option linter.unusedSectionVars false
set_option maxRecDepth 100000
namespace Go.Proofs.YthdgnfnalimcnaaGreatDoor
open Go Go.Ab
open Classical
variable [Sel]
attribute [simp] vc_skip hiLen zN capV cpyD appendZ clearV delV mdel copyVT extV ovV vc_label vc_region vc_drawn vc_seq vc_cond vc_block vc_exit vc_goto vc_ret vc_loop vc_scope vcOps_nil vcOps_cons vcPs_nil vcPs_cons vcDs_nil vcDs_cons vcD impB mkd wkOf isCallV rdOK_eq rdO_nil rdO_tmp rdO_const rdO_global rdO_func rdL_nil rdL_cons rdT_av rdT_cst rdT_pel rdT_tup rdT_junk rdT_loc St.app Op.operands Call.operands vcG_eq iteP wkOf isCallV vcOp putK_eq pureV ev co coC asI asB asS isNil nkOf derefV fieldAddrV indexAddrV indexV lowV boundsV sliceV pickV_eq unV convV convB bytesOf capOf lenV minV maxV withSrc slice3V lookupV mapOf mfind mput scalT mapUpdV makeSliceV appendM appendN growM growOK zM binI isConst binV St.put upd KSeq_n KSeq_x KSeq_g KSeq_r KBlock_n KBlock_x KBlock_g KBlock_r KScope_n KScope_x KScope_r KRet_n KRet_r resL retTV TV.er AV.er AV.ers AV.erk AV.erks Tok.k Heap.er_nil Heap.er_cons Heap.er_app HObj.er_var HObj.er_map Heap.keys_nil Heap.keys_cons Heap.keys_app hget hset subT getP setP_nil setP_one setP_two setPo_some storeV buildV buildL partsOf capTV argOK entry St.of lk_nil lk_cons leLoc siterOf_siter gB_undef gB_av gB_cst undef isNE_tmp isSlT nslD nslDs mslOf mstrV copyV copyK unsV ustrV hdel dataV sameP mtbD isSlN slNilV vcDo_nil vcDo_cons isLt sft sftD softV rangeMV entryMV cmpV

abbrev Dig := List UInt8
def encD (d : Dig) : AV := .agg (d.map fun b => .i .u8 b.toNat)
structure Read where
  path : List UInt8
  is : Bool
  sum : Dig
deriving DecidableEq
structure Made where
  path : List UInt8
  sum : Dig
deriving DecidableEq
structure Trace where
  key : Dig
  reads : List Read
  outs : List Made
def encRead (r : Read) : AV := .agg [.s r.path, .b r.is, encD r.sum]
def encMade (r : Made) : AV := .agg [.s r.path, encD r.sum]
def encReads (l : List Read) : AV := .sl .no (l.map encRead)
def encDigs (l : List Dig) : AV := .sl .no (l.map encD)
def encMades (l : List Made) : AV := .sl .no (l.map encMade)
def encTrace (t : Trace) : AV := .agg [encD t.key, encReads t.reads, encMades t.outs]
def encTraces (l : List Trace) : AV := .sl .no (l.map encTrace)
structure Want where
  kind : Int
  path : List UInt8
  i : Int
deriving DecidableEq
def encWant (w : Want) : AV := .agg [.i .i64 w.kind, .s w.path, .i .i64 w.i]
@[simp] theorem er_encD (d : Dig) : (encD d).er = encD d := by simp [encD, AV.er, AV.ers_eq, Function.comp_def]
@[simp] theorem er_encRead (r : Read) : (encRead r).er = encRead r := by simp [encRead, AV.er, AV.ers]
@[simp] theorem er_encMade (r : Made) : (encMade r).er = encMade r := by simp [encMade, AV.er, AV.ers]
@[simp] theorem er_encReads (r : List Read) : (encReads r).er = encReads r := by simp [encReads, AV.er, AV.ers_eq, Function.comp_def]
@[simp] theorem er_encDigs (r : List Dig) : (encDigs r).er = encDigs r := by simp [encDigs, AV.er, AV.ers_eq, Function.comp_def]
@[simp] theorem er_encMades (r : List Made) : (encMades r).er = encMades r := by simp [encMades, AV.er, AV.ers_eq, Function.comp_def]
@[simp] theorem er_encTrace (r : Trace) : (encTrace r).er = encTrace r := by simp [encTrace, AV.er, AV.ers]
@[simp] theorem er_encTraces (r : List Trace) : (encTraces r).er = encTraces r := by simp [encTraces, AV.er, AV.ers_eq, Function.comp_def]
@[simp] theorem er_encWant (r : Want) : (encWant r).er = encWant r := by simp [encWant, AV.er, AV.ers]
@[simp] theorem erk_encD (x : Dig) : (encD x).erk = encD x := erk_of_er _ (er_encD x)
@[simp] theorem erk_encRead (x : Read) : (encRead x).erk = encRead x := erk_of_er _ (er_encRead x)
@[simp] theorem erk_encMade (x : Made) : (encMade x).erk = encMade x := erk_of_er _ (er_encMade x)
@[simp] theorem erk_encReads (x : List Read) : (encReads x).erk = encReads x := erk_of_er _ (er_encReads x)
@[simp] theorem erk_encDigs (x : List Dig) : (encDigs x).erk = encDigs x := erk_of_er _ (er_encDigs x)
@[simp] theorem erk_encMades (x : List Made) : (encMades x).erk = encMades x := erk_of_er _ (er_encMades x)
@[simp] theorem erk_encTrace (x : Trace) : (encTrace x).erk = encTrace x := erk_of_er _ (er_encTrace x)
@[simp] theorem erk_encTraces (x : List Trace) : (encTraces x).erk = encTraces x := erk_of_er _ (er_encTraces x)
@[simp] theorem erk_encWant (x : Want) : (encWant x).erk = encWant x := erk_of_er _ (er_encWant x)
theorem encD_inj {a b : Dig} : encD a = encD b ↔ a = b := by
  constructor
  · intro h
    simp only [encD, AV.agg.injEq] at h
    refine List.map_inj_right (f := fun b : UInt8 => AV.i .u8 b.toNat) (fun x y e => ?_) |>.1 h
    simp only [AV.i.injEq, true_and] at e
    exact UInt8.toNat_inj.1 (by exact_mod_cast e)
  · rintro rfl; rfl
theorem encD_inj' {a b : Dig} : a.map (fun b => AV.i .u8 b.toNat) = b.map (fun b => AV.i .u8 b.toNat) ↔ a = b := by
  have := encD_inj (a := a) (b := b)
  simpa [encD] using this
theorem encRead_inj {a b : Read} : encRead a = encRead b ↔ a = b := by
  cases a; cases b; simp [encRead, encD_inj]
abbrev cf0 : Cfg := ⟨fun _ => false, fun _ => false⟩
theorem i64_in {n : Int} (h0 : -9223372036854775808 ≤ n) (h1 : n ≤ 9223372036854775807) : IntKind.i64.wrap n = n := IntWalk.i64_in _ ⟨h0, h1⟩
@[simp] theorem take_succ_all {α : Type} {xs : List α} {k : Nat} (hlt : k < xs.length) {q : α → Prop} : (∀ x ∈ xs.take (k+1), q x) ↔ (∀ x ∈ xs.take k, q x) ∧ q xs[k] := by
  rw [List.take_succ_eq_append_getElem hlt]
  simp only [List.mem_append, List.mem_singleton]
  exact ⟨fun h => ⟨fun x hx => h x (.inl hx), h _ (.inr rfl)⟩, fun h x hx => hx.elim (h.1 x) (fun e => e ▸ h.2)⟩
end Go.Proofs.YthdgnfnalimcnaaGreatDoor
