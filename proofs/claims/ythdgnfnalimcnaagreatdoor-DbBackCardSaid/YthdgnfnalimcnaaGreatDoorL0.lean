/- Go's library: a byte's place in a text; what text begins with. No condition beyond each theorem's own. -/
import Derived.Test.YthdgnfnalimcnaaGreatDoorB0
import Derived.Lib.Strings
import Derived.Lib.Slices
import Derived.Lib.Walk
import Derived.Lib.Bytealg
set_option linter.unusedSimpArgs false
set_option linter.unusedVariables false
set_option linter.unusedSectionVars false
set_option maxRecDepth 100000
/-! Go's library: a byte's place in a text; what text begins with. -/
namespace Go.Proofs.YthdgnfnalimcnaaGreatDoor
open Go Go.Ab
open Classical
variable [Sel]

theorem tnS {a b : Int} (ha : 0 ≤ a) (hb : 0 ≤ b) : (a - b).toNat = a.toNat - b.toNat := by omega
theorem zz : (∀ {n : Int}, -9223372036854775808 ≤ n → n ≤ 9223372036854775807 → IntKind.i64.wrap n = n) ∧ (∀ {a b : Int}, 0 ≤ a → 0 ≤ b → (a - b).toNat = a.toNat - b.toNat) ∧ (∀ {a b : Int}, 0 ≤ a → 0 ≤ b → (a + b).toNat = a.toNat + b.toNat) ∧ (∀ {a b : Int}, 0 ≤ a → 0 ≤ b → (a * b).toNat = a.toNat * b.toNat) ∧ (∀ {α : Type} {a : α} {l : List α}, (a :: l)[0]? = some a) ∧ (∀ {α : Type} (a : α) (l : List α) (h : 0 < (a :: l).length), (a :: l)[0] = a) :=
  ⟨i64_in, tnS, Int.toNat_add, Int.toNat_mul, List.getElem?_cons_zero, List.getElem_cons_zero⟩
theorem PC.of_calls {P : Program} {f : FuncId} {args : List TV} {vs0 : List Value} {r : TV} {v : Value} (hdet : ∀ imm w vs, ARs P (g0 imm) w args vs → vs = vs0) (hr : ∀ imm w, AR P (g0 imm) w r v)
    (h : ∀ w, Calls P f vs0.toArray w fun e w' => e = .returned v ∧ w' = w) : PC P f args r := by
  intro imm w vs hrep hargs
  have := hdet imm w vs.toList hargs
  have hv : vs = vs0.toArray := by rw [← this]
  subst hv
  refine (h w).mono ?_
  rintro e w' ⟨rfl, rfl⟩
  exact ⟨v, r, imm, [], rfl, ⟨rfl, rfl⟩, hr _ _, hrep, Step.refl⟩

@[simp] theorem fnok154 : fnOK Tryz.prog 154 = true := by kernel_rfl
@[simp] theorem isne154 : isNE Tryz.prog (.func 154) = false := isNE_func fnok154
@[simp] theorem fnok147 : fnOK Tryz.prog 147 = true := by kernel_rfl
@[simp] theorem isne147 : isNE Tryz.prog (.func 147) = false := isNE_func fnok147
@[simp] theorem fnok129 : fnOK Tryz.prog 129 = true := by kernel_rfl
@[simp] theorem isne129 : isNE Tryz.prog (.func 129) = false := isNE_func fnok129
@[simp] theorem fnok103 : fnOK Tryz.prog 103 = true := by kernel_rfl
@[simp] theorem isne103 : isNE Tryz.prog (.func 103) = false := isNE_func fnok103
set_option maxHeartbeats 1000000 in
theorem sliteIB_calls (s : ByteArray) (c : Int) (w : World) :
    Calls Tryz.prog 154 #[.string s, .int .u8 c] w fun e w' => e = .returned (.int .i64 (Lib.indexByte s.data.toList c.toNat.toUInt8)) ∧ w' = w := by
  go_enter Tryz.func154, Tryz.ntmps154
  go_wp2
  rw [run_callFunc_extern Tryz.func158 (by kernel_rfl) (by kernel_rfl) (by kernel_rfl) (e := Extern.BytealgIndexByte.indexByte) (by kernel_rfl), Lib.run_indexByteString]
  simp only [Result.andThen]
  rw [Oper.upon_value]
  go_wp2
  go_ret
  exact ⟨rfl, rfl⟩

theorem sliteIB_ok (l : List UInt8) (c : UInt8) : PC Tryz.prog 154 [.av .str (.s l), .av (.int .u8) (.i .u8 c.toNat)] (.av (.int .i64) (.i .i64 (Lib.indexByte l c))) := by
  refine PC.of_calls (vs0 := [.string ⟨l.toArray⟩, .int .u8 c.toNat]) (v := .int .i64 (Lib.indexByte l c)) ?_ (fun _ _ => ⟨rfl, rfl, rfl⟩) ?_
  · intro imm w vs h
    match vs, h with
    | [a, b], ⟨⟨f1, _, h1⟩, ⟨f2, _, h2⟩, _⟩ =>
      rw [cells_one rfl f1] at h1
      rw [cells_one rfl f2] at h2
      simp at h1 h2
      rw [h1, h2]
  · intro w
    have := sliteIB_calls ⟨l.toArray⟩ c.toNat w
    simpa using this
theorem indexByte_ok (l : List UInt8) (c : UInt8) : PC Tryz.prog 147 [.av .str (.s l), .av (.int .u8) (.i .u8 c.toNat)] (.av (.int .i64) (.i .i64 (Lib.indexByte l c))) := by
  refine PC.of <| ACalls.of_vc laid mixed Tryz.func147 rfl (by kernel_rfl) cf0 (by simp [Tryz.ntmps147]) fun imm0 w0 => ?_
  (simp (maxSteps := 2000000) (disch := first | omega | assumption) [zz])
  refine callV_pc (sliteIB_ok l c) rfl rfl (by simp) (by simp [argLe, TV.er, AV.er]) ?_
  (simp (maxSteps := 2000000) (disch := first | omega | assumption) [zz, Tryz.f147])
def hasPre (l p : List UInt8) : Bool := decide (l.take p.length = p)
theorem slitePrefix_ok (l p : List UInt8) (hl : l.length ≤ 9223372036854775807) (hp : p.length ≤ 9223372036854775807) : PC Tryz.prog 129 [.av .str (.s l), .av .str (.s p)] (.av .bool (.b (hasPre l p))) := by
  refine PC.of <| ACalls.of_vc laid mixed Tryz.func129 rfl (by kernel_rfl) cf0 (by simp [Tryz.ntmps129]) fun imm0 w0 => ?_
  by_cases h : p.length ≤ l.length
  · have h' : (p.length : Int) ≤ l.length := by omega
    (simp (maxSteps := 2000000) (disch := first | omega | assumption) [zz, h', Tryz.f129, hasPre])
  · have h' : ¬ (p.length : Int) ≤ l.length := by omega
    have h2 : ¬ l.take p.length = p := fun e => by have := congrArg List.length e; simp at this; omega
    (simp (maxSteps := 2000000) (disch := first | omega | assumption) [zz, h', Tryz.f129, hasPre, h2])
theorem hasPrefix_ok (l p : List UInt8) (hl : l.length ≤ 9223372036854775807) (hp : p.length ≤ 9223372036854775807) : PC Tryz.prog 103 [.av .str (.s l), .av .str (.s p)] (.av .bool (.b (hasPre l p))) := by
  refine PC.of <| ACalls.of_vc laid mixed Tryz.func103 rfl (by kernel_rfl) cf0 (by simp [Tryz.ntmps103]) fun imm0 w0 => ?_
  (simp (maxSteps := 2000000) (disch := first | omega | assumption) [zz])
  refine callV_pc (slitePrefix_ok l p hl hp) rfl rfl (by simp) (by simp [argLe, TV.er, AV.er]) ?_
  (simp (maxSteps := 2000000) (disch := first | omega | assumption) [zz, Tryz.f103])
end Go.Proofs.YthdgnfnalimcnaaGreatDoor
