/- DbReads: true for every input. No condition beyond each theorem's own. -/
import Derived.Test.YthdgnfnalimcnaaGreatDoorI2ToI3
import Derived.Test.YthdgnfnalimcnaaGreatDoorPT
set_option linter.unusedSimpArgs false
set_option linter.unusedVariables false
set_option linter.unusedSectionVars false
set_option maxRecDepth 100000
/-! DbReads: true for every input. -/
namespace Go.Proofs.YthdgnfnalimcnaaGreatDoor
open Go Go.Ab Go.ChangeShapes Go.WideShapes Go.ChangeAt Go.RowKit
open Classical


theorem dbReads_own : ownKnob Tryz.prog.godebug = none := by kernel_rfl
theorem dbReads_contract (H : Type) (enc : TypeId × Value → H) (W : World) (base : Nat) (args : Array Value) (ds gs : List (DataW H)) (before : List MemPlace)
    (hval : ∀ (j : Nat) t v, Tryz.f6.params[j]? = some t → args[j]? = some v → Value.okWide Tryz.prog W .any base t v)
    (hW : DataW.Whole enc Tryz.prog Tryz.f6.params.toList Rows.dbReadsSpec.vars false W args.toList ds gs before) (hL : laidMetH Tryz.prog Rows.dbReadsRow.laid W) :
    Calls Tryz.prog 6 args W fun e W' => ∃ v, e = .returned v ∧ Rows.dbReadsSpec.post enc Tryz.prog Tryz.f6 false true false false W args v W' := by
  letI : Sel := ⟨fun n => n == "internal/strconv.uint64pow10" || n == "strconv.ErrSyntax" || n == "strconv.ErrRange"⟩
  haveI : SelPow := ⟨rfl⟩
  haveI : SelErr := ⟨rfl, rfl, rfl⟩
  refine law_post laid (s := Rows.dbReadsSpec) rfl (tb := 4) rfl Tryz.underlying4 (n := 10) (by kernel_rfl) hval hW (tErrG hL (by kernel_rfl) (by first | (exact .inl (by kernel_rfl)) | exact .inr (by kernel_rfl)) rfl rfl rfl) ?_ ?_
  · intro h
    match ds, h with
    | [a], _ => rfl
  · intro h hw
    match ds, h with
    | [a], _ =>
      obtain ⟨s, e1, hs⟩ := decStr (hw 0 9 a rfl rfl)
      have := dbReads_ok s (Nat.le_trans hs max63)
      have ep : Tryz.f6.params.toList = [9] := rfl
      rw [ep]
      simp only [argTVs, e1, ty9] at this ⊢
      exact this

def dbReads_args : Array Value := #[Value.string ⟨#[]⟩]
theorem dbReads_met (os : Os) : laidMet Tryz.prog Rows.dbReadsRow.laid ((World.laidAll Tryz.prog os Rows.dbReadsRow.laid).forCall (fun _ _ => 0) ⟨#[], dbReads_args, []⟩).memory :=
  laidMet_laidAll dbReads_args (by kernel_rfl) (by kernel_rfl)
theorem dbReads_reads (os : Os) {H : Type} (enc : TypeId × Value → H) : ∃ x, DataW.whole enc Tryz.prog ((World.laidAll Tryz.prog os Rows.dbReadsRow.laid).forCall (fun _ _ => 0) ⟨#[], dbReads_args, []⟩).memory Tryz.f6.params.toList Rows.dbReadsSpec.vars false dbReads_args.toList 8 = some x :=
  Option.isSome_iff_exists.1 (by kernel_rfl)
theorem dbReads_lifted (os : Os) (started : os.Started) (H : Type) (enc : TypeId × Value → H) (F : Stop.Interp) :
    ReturnsInHanded {} Tryz.checked os 6 .any ((OpenSpec.ofChange Rows.dbReadsSpec).preRow enc Tryz.prog Tryz.f6 Rows.dbReadsRow.domain false Rows.dbReadsRow.laid) (((OpenSpec.ofChange Rows.dbReadsSpec).at F).post enc Tryz.prog Tryz.f6 false true false false) := by
  obtain ⟨x, hx⟩ := dbReads_reads os enc
  refine returnsInHanded_of_row (C := Tryz.checked) (s := OpenSpec.ofChange Rows.dbReadsSpec) dbReads_own started (by kernel_rfl) Tryz.func6
    (witness_row_at (enc := enc) (C := Tryz.checked) false (World.laidAll Tryz.prog os Rows.dbReadsRow.laid) dbReads_args (World.laidAll_os _ _ _) (by kernel_rfl) (by kernel_rfl) (by kernel_rfl)
      (OpenSpec.preRow_of_cond 8 hx rfl (fun k hk => by cases hk) (by kernel_rfl) (dbReads_met os))) ?_
  intro W base args ds gs before hval hW _ _ _ hL _ _
  exact dbReads_contract H enc W base args ds gs before hval hW hL
theorem dbReads_said : Rows.DbReadsSaid :=
  OpenClaim.holds_of_cond 6 Tryz.f6 rfl rfl rfl rfl rfl rfl rfl ⟨rfl, rfl, rfl, rfl, rfl⟩ rfl rfl rfl rfl rfl (by kernel_rfl) Tryz.func6 (by kernel_rfl)
    (of_decide_eq_true (by kernel_rfl)) (by unfold Func.isWrapper; first | (rw [if_pos (by decide +kernel)]; kernel_rfl) | (rw [if_neg (by decide +kernel)]; exact ⟨rfl, rfl⟩))
    (fun os started H enc _ F => by rw [OpenClaim.pre_eq_preRow]; exact dbReads_lifted os started H enc F)
theorem dbReads_plain (f : FuncId) (fn : Func) (hf : Tryz.pinned.checked.prog.funcNamed "bloomery/bloomerylaw25.DbReads" = some f) (hfn : Tryz.pinned.checked.prog.funcs[f]? = some fn) :
    true = Tryz.pinned.checked.prog.looks [] ∧ ∀ (j : Nat) t, fn.params[j]? = some t → Tryz.pinned.checked.prog.wantsStandIn t = false := by
  obtain rfl : f = 6 := Option.some.inj ((show Tryz.prog.funcNamed "bloomery/bloomerylaw25.DbReads" = some 6 by kernel_rfl).symm.trans hf) |>.symm
  obtain rfl : fn = Tryz.f6 := (Option.some.inj (Tryz.func6.symm.trans hfn)).symm
  refine ⟨by kernel_rfl, fun j t ht => ?_⟩
  have ep : Tryz.f6.params.toList = [9] := rfl
  have hm : t ∈ Tryz.f6.params.toList := (Array.mem_of_getElem? ht).val
  rw [ep] at hm
  have hall : [9].all (fun t => !(Tryz.prog.wantsStandIn t)) = true := by kernel_rfl
  have := List.all_eq_true.1 hall t hm
  exact (by simpa using this : Tryz.prog.wantsStandIn t = false)
theorem dbReads_card : Rows.DbReadsCardSaid :=
  Claim7.holds_tied_plain_at .later [] _ _ _ _ dbReads_said (fun _ h => by cases h) (by kernel_rfl) (fun _ h => by cases h) dbReads_row_tie rfl ⟨rfl, rfl⟩ (by kernel_rfl) rfl dbReads_plain (by kernel_rfl)
#print axioms dbReads_card
end Go.Proofs.YthdgnfnalimcnaaGreatDoor
