/- DbBack: true for every input. No condition beyond each theorem's own. -/
import Derived.Test.YthdgnfnalimcnaaGreatDoorJ1
import Derived.Test.YthdgnfnalimcnaaGreatDoorH3To
import Derived.Test.YthdgnfnalimcnaaGreatDoorPT
set_option linter.unusedSimpArgs false
set_option linter.unusedVariables false
set_option linter.unusedSectionVars false
set_option maxRecDepth 100000
/-! DbBack: true for every input. -/
namespace Go.Proofs.YthdgnfnalimcnaaGreatDoor
open Go Go.Ab Go.ChangeShapes Go.WideShapes Go.ChangeAt Go.RowKit
open Classical


theorem dbBack_own : ownKnob Tryz.prog.godebug = none := by kernel_rfl
theorem dbBack_contract (H : Type) (enc : TypeId × Value → H) (W : World) (base : Nat) (args : Array Value) (ds gs : List (DataW H)) (before : List MemPlace)
    (hval : ∀ (j : Nat) t v, Tryz.f7.params[j]? = some t → args[j]? = some v → Value.okWide Tryz.prog W .any base t v)
    (hW : DataW.Whole enc Tryz.prog Tryz.f7.params.toList Rows.dbBackSpec.vars false W args.toList ds gs before) (hL : laidMetH Tryz.prog Rows.dbBackRow.laid W) :
    Calls Tryz.prog 7 args W fun e W' => ∃ v, e = .returned v ∧ Rows.dbBackSpec.post enc Tryz.prog Tryz.f7 false true false false W args v W' := by
  letI : Sel := ⟨fun n => n == "internal/strconv.uint64pow10" || n == "strconv.ErrSyntax" || n == "strconv.ErrRange"⟩
  haveI : SelPow := ⟨rfl⟩
  haveI : SelErr := ⟨rfl, rfl, rfl⟩
  refine law_post laid (s := Rows.dbBackSpec) rfl (tb := 4) rfl Tryz.underlying4 (n := 10) (by kernel_rfl) hval hW (tErrG hL (by kernel_rfl) (by first | (exact .inl (by kernel_rfl)) | exact .inr (by kernel_rfl)) rfl rfl rfl) ?_ ?_
  · intro h
    match ds, h with
    | [a, b, c], _ => rfl
  · intro h hw
    match ds, h with
    | [a, b, c], _ =>
      obtain ⟨mo, e1⟩ := decI' (hw 0 3 a rfl rfl)
      obtain ⟨l, e2, hl1, hl2⟩ := decActs (hw 1 39 b rfl rfl)
      obtain ⟨m, e3, hm1, hm2⟩ := decActs (hw 2 39 c rfl rfl)
      have := dbBack_ok mo l m (fun x hx => ⟨okTrace_P (hl2 x hx).1, okTrace_D (hl2 x hx).1, (hl2 x hx).2⟩) (fun x hx => ⟨okTrace_P (hm2 x hx).1, okTrace_D (hm2 x hx).1, (hm2 x hx).2⟩) (Nat.le_trans hl1 max63) (Nat.le_trans hm1 max63)
      have ep : Tryz.f7.params.toList = [3, 39, 39] := rfl
      rw [ep]
      simp only [argTVs, e1, e2, e3, ty3, ty39] at this ⊢
      exact this

def dbBack_args : Array Value := #[Value.int .i64 0, Value.slice none 0 0, Value.slice none 0 0]
theorem dbBack_met (os : Os) : laidMet Tryz.prog Rows.dbBackRow.laid ((World.laidAll Tryz.prog os Rows.dbBackRow.laid).forCall (fun _ _ => 0) ⟨#[], dbBack_args, []⟩).memory :=
  laidMet_laidAll dbBack_args (by kernel_rfl) (by kernel_rfl)
theorem dbBack_reads (os : Os) {H : Type} (enc : TypeId × Value → H) : ∃ x, DataW.whole enc Tryz.prog ((World.laidAll Tryz.prog os Rows.dbBackRow.laid).forCall (fun _ _ => 0) ⟨#[], dbBack_args, []⟩).memory Tryz.f7.params.toList Rows.dbBackSpec.vars false dbBack_args.toList 8 = some x :=
  Option.isSome_iff_exists.1 (by kernel_rfl)
theorem dbBack_lifted (os : Os) (started : os.Started) (H : Type) (enc : TypeId × Value → H) (F : Stop.Interp) :
    ReturnsInHanded {} Tryz.checked os 7 .any ((OpenSpec.ofChange Rows.dbBackSpec).preRow enc Tryz.prog Tryz.f7 Rows.dbBackRow.domain false Rows.dbBackRow.laid) (((OpenSpec.ofChange Rows.dbBackSpec).at F).post enc Tryz.prog Tryz.f7 false true false false) := by
  obtain ⟨x, hx⟩ := dbBack_reads os enc
  refine returnsInHanded_of_row (C := Tryz.checked) (s := OpenSpec.ofChange Rows.dbBackSpec) dbBack_own started (by kernel_rfl) Tryz.func7
    (witness_row_at (enc := enc) (C := Tryz.checked) false (World.laidAll Tryz.prog os Rows.dbBackRow.laid) dbBack_args (World.laidAll_os _ _ _) (by kernel_rfl) (by kernel_rfl) (by kernel_rfl)
      (OpenSpec.preRow_of_cond 8 hx rfl (fun k hk => by cases hk) (by kernel_rfl) (dbBack_met os))) ?_
  intro W base args ds gs before hval hW _ _ _ hL _ _
  exact dbBack_contract H enc W base args ds gs before hval hW hL
theorem dbBack_said : Rows.DbBackSaid :=
  OpenClaim.holds_of_cond 7 Tryz.f7 rfl rfl rfl rfl rfl rfl rfl ⟨rfl, rfl, rfl, rfl, rfl⟩ rfl rfl rfl rfl rfl (by kernel_rfl) Tryz.func7 (by kernel_rfl)
    (of_decide_eq_true (by kernel_rfl)) (by unfold Func.isWrapper; first | (rw [if_pos (by decide +kernel)]; kernel_rfl) | (rw [if_neg (by decide +kernel)]; exact ⟨rfl, rfl⟩))
    (fun os started H enc _ F => by rw [OpenClaim.pre_eq_preRow]; exact dbBack_lifted os started H enc F)
theorem dbBack_plain (f : FuncId) (fn : Func) (hf : Tryz.pinned.checked.prog.funcNamed "bloomery/bloomerylaw25.DbBack" = some f) (hfn : Tryz.pinned.checked.prog.funcs[f]? = some fn) :
    true = Tryz.pinned.checked.prog.looks [] ∧ ∀ (j : Nat) t, fn.params[j]? = some t → Tryz.pinned.checked.prog.wantsStandIn t = false := by
  obtain rfl : f = 7 := Option.some.inj ((show Tryz.prog.funcNamed "bloomery/bloomerylaw25.DbBack" = some 7 by kernel_rfl).symm.trans hf) |>.symm
  obtain rfl : fn = Tryz.f7 := (Option.some.inj (Tryz.func7.symm.trans hfn)).symm
  refine ⟨by kernel_rfl, fun j t ht => ?_⟩
  have ep : Tryz.f7.params.toList = [3, 39, 39] := rfl
  have hm : t ∈ Tryz.f7.params.toList := (Array.mem_of_getElem? ht).val
  rw [ep] at hm
  have hall : [3, 39, 39].all (fun t => !(Tryz.prog.wantsStandIn t)) = true := by kernel_rfl
  have := List.all_eq_true.1 hall t hm
  exact (by simpa using this : Tryz.prog.wantsStandIn t = false)
theorem dbBack_card : Rows.DbBackCardSaid :=
  Claim7.holds_tied_plain_at .later [] _ _ _ _ dbBack_said (fun _ h => by cases h) (by kernel_rfl) (fun _ h => by cases h) dbBack_row_tie rfl ⟨rfl, rfl⟩ (by kernel_rfl) rfl dbBack_plain (by kernel_rfl)
#print axioms dbBack_card
end Go.Proofs.YthdgnfnalimcnaaGreatDoor
