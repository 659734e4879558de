/- Traces that a Db law looks at. No condition beyond each theorem's own. -/
import Derived.Test.YthdgnfnalimcnaaGreatDoorD7ToD8
import Derived.Test.YthdgnfnalimcnaaGreatDoorP17ToPD
import Derived.Test.YthdgnfnalimcnaaGreatDoorP25ToPW
import Derived.Test.YthdgnfnalimcnaaGreatDoorPB
set_option linter.unusedSimpArgs false
set_option linter.unusedVariables false
set_option linter.unusedSectionVars false
section
set_option maxRecDepth 100000
/-! Traces that a Db law looks at. -/
namespace Go.Proofs.YthdgnfnalimcnaaGreatDoor
open Go Go.Ab
open Classical
variable [Sel]

def TrW (t : Trace) : Prop := TrP t ∧ (∀ r ∈ t.reads, r.path.length ≤ 1000000000) ∧ ∀ r ∈ t.outs, r.path.length ≤ 1000000000
theorem TrW.ok {t : Trace} (h : TrW t) : TrOK t := ⟨h.1.1.1, h.1.2.1⟩
theorem TrW.check {t : Trace} (h : TrW t) : PC Tryz.prog 18 [.av (tyOf Tryz.prog 34) (encTrace t)] (.av (.int .i64) (.i .i64 (checkV t))) := rcheck_ok t h.1 h.2.1 h.2.2
theorem TrP.great {t : Trace} (h : TrP t) : PC Tryz.prog 10 [.av (tyOf Tryz.prog 34) (encTrace t)] (.av (.int .i64) (.i .i64 (if wideTV t = true then 1 else 0))) := great_ok t h.1.1 h.2.1 h.1.2 h.2.2
end Go.Proofs.YthdgnfnalimcnaaGreatDoor
end
section
set_option maxRecDepth 100000
/-! What a reading of traces tells. -/
namespace Go.Proofs.YthdgnfnalimcnaaGreatDoor
open Go Go.Ab
open Classical
variable [Sel]

theorem decI' {n : Nat} {x : AV} (h : WTy Tryz.prog (n + 1) 3 x) : ∃ m : Int, x = .i .i64 m := by
  simp only [WTy, ty3] at h
  obtain ⟨m, rfl, hm⟩ := h
  exact ⟨m, rfl⟩
theorem okTrace_P {t : Trace} (h : okTrace t) : TrP t := by
  obtain ⟨h1, ⟨h2, h3⟩, h4, h5⟩ := h
  have hx := max63
  exact ⟨⟨Nat.le_trans h2 hx, fun r hr => Nat.le_trans (h3 r hr).2 hx⟩, Nat.le_trans h4 hx, fun r hr => Nat.le_trans (h5 r hr).2 hx⟩
end Go.Proofs.YthdgnfnalimcnaaGreatDoor
end
