/- Numbers as texts. No condition beyond each theorem's own. -/
import Derived.Test.YthdgnfnalimcnaaGreatDoorL0
import Derived.Test.YthdgnfnalimcnaaGreatDoorShelf
set_option linter.unusedSimpArgs false
set_option linter.unusedVariables false
set_option linter.unusedSectionVars false
set_option maxRecDepth 100000
/-! Numbers as texts. -/
namespace Go.Proofs.YthdgnfnalimcnaaGreatDoor
open Go Go.Ab
open Classical
variable [Sel] [SelPow]
open Go.Sort (grow)

theorem PC.of_grow {P : Program} {f : FuncId} {args : List TV} {vs0 : List Value} {r : TV} {v : Value} (hdet : ∀ imm w vs, ARs P (g0 imm) w args vs → vs = vs0) (hr : ∀ imm w, AR P (g0 imm) w r v)
    (h : ∀ imm w, TabOK P imm w → Calls P f vs0.toArray w fun e w' => e = .returned v ∧ ∃ k os, w' = grow (w.drewN k) os) : PC P f args r := by
  intro imm w vs hrep hargs
  have := hdet imm w vs.toList hargs
  have hv : vs = vs0.toArray := by rw [← this]
  subst hv
  refine (h imm w hrep.tab).mono ?_
  rintro e w' ⟨rfl, k, os, rfl⟩
  have hlt : ∀ (b : Nat) (o : Obj), w.heap[b]? = some o → (grow (w.drewN k) os).heap[b]? = some o := by
    intro b o hb
    have h1 := (Array.getElem?_eq_some_iff.1 hb).1
    show (w.heap ++ os)[b]? = some o
    rw [Array.getElem?_append_left h1]; exact hb
  have hk : ImmKept (g0 imm) w (grow (w.drewN k) os) := fun b cs E fz _ hb => ⟨cs, E, fz, hlt _ _ hb, rfl, fun _ _ => rfl⟩
  refine ⟨v, r, imm, [], rfl, ⟨rfl, rfl⟩, hr _ _, ⟨fun b hb => ?_, by simp [Heap.keys], by simp, hrep.tab.keep (g := g0 imm) (g' := g0 imm) (Gh.le_refl _) hrep.imm hk⟩, ?_⟩
  · obtain ⟨cs, E, fz, h1, h2⟩ := hrep.imm b hb
    exact ⟨cs, E, fz, hlt _ _ h1, h2⟩
  · exact {
      os := rfl, tape := rfl, output := rfl, drawn := fun _ => by show w.drawn ≤ w.drawn + k; omega
      size := by show w.heap.size ≤ (w.heap ++ os).size; simp
      frame := fun b hb _ => ⟨by show (w.heap ++ os)[b]? = _; rw [Array.getElem?_append_left hb], rfl⟩
      imm := fun _ => Nat.le_refl _
      kept := fun b cs E fz h0 hb => hk b cs E fz h0 hb
      dom := fun b hb => by simp [Heap.keys] at hb }
theorem VL_u64 {P : Program} {g : Gh} {w : World} {e : TypeId} : ∀ (zs : List Int) (cs : List Value), VL P g w e (zs.map (AV.i .u64 ·)) cs → cs = zs.map (Value.int .u64 ·)
  | [], cs, h => by simpa [VL] using h
  | z :: zs, cs, h => by
    simp only [List.map_cons, VL] at h
    obtain ⟨c1, c2, rfl, h1, h2⟩ := h
    have := VL_u64 zs c2 h2
    simp only [VC] at h1
    rw [h1.2, this]; rfl
theorem gPow : Tryz.prog.globalNamed "internal/strconv.uint64pow10" = some 1 := by kernel_rfl
theorem tabs_has : (1, TyD.arr 20 148, AV.agg (Lib.pow10Tab.map (AV.i .u64 ·))) ∈ tabs Tryz.prog := by
  have h1 : tyOf Tryz.prog ((Tryz.prog.globals[1]?).get (by kernel_rfl)).type = .arr 20 148 := by kernel_rfl
  rw [← h1]
  exact tabs_mem (gl := (Tryz.prog.globals[1]?).get (by kernel_rfl)) (by kernel_rfl) (by kernel_rfl) SelPow.pow
theorem tabIs {imm : Nat → Nat} {w : World} (h : TabOK Tryz.prog imm w) : Lib.TabIs Tryz.prog w "internal/strconv.uint64pow10" .u64 Lib.pow10Tab := by
  obtain ⟨h1, h2, h3, cs, E, fz, h4, h5⟩ := h.1 _ _ _ tabs_has
  have hsz : szD Tryz.prog (.arr 20 148) = 20 := by simp [szD]
  rw [hsz] at h2 h5
  simp only [VC] at h2
  have hv := VL_u64 _ _ h2.2
  have hc : cellsAt w 1 0 20 = cs.toList := by
    unfold cellsAt
    rw [h4]
    simp only [List.drop_zero]
    exact List.take_of_length_le (by simp [h5])
  rw [hc] at hv
  unfold Lib.TabIs World.var?
  rw [gPow]
  simp only [Option.bind_some, h4]
  rw [← hv]
@[simp] theorem fnok63 : fnOK Tryz.prog 63 = true := by kernel_rfl
@[simp] theorem isne63 : isNE Tryz.prog (.func 63) = false := isNE_func fnok63
@[simp] theorem fnok66 : fnOK Tryz.prog 66 = true := by kernel_rfl
@[simp] theorem isne66 : isNE Tryz.prog (.func 66) = false := isNE_func fnok66
@[simp] theorem fnok33 : fnOK Tryz.prog 33 = true := by kernel_rfl
@[simp] theorem isne33 : isNE Tryz.prog (.func 33) = false := isNE_func fnok33
theorem formatInt_ok (n : Int) (h0 : -9223372036854775808 ≤ n) (h1 : n ≤ 9223372036854775807) : PC Tryz.prog 63 [.av (.int .i64) (.i .i64 n), .av (.int .i64) (.i .i64 10)] (.av .str (.s (Lib.itoa n))) := by
  refine PC.of_grow (vs0 := [.int .i64 n, .int .i64 10]) (v := .string ⟨(Lib.itoa n).toArray⟩) ?_ (fun _ _ => ⟨rfl, rfl, rfl⟩) fun imm w ht => Tryz.strconv_FormatInt_10 n h0 h1 w (tabIs ht)
  intro imm w vs h
  match vs, h with
  | [a, b], ⟨⟨f1, _, h1⟩, ⟨f2, _, h2⟩, _⟩ =>
    rw [cells_one rfl f1] at h1
    rw [cells_one rfl f2] at h2
    simp at h1 h2
    rw [h1, h2]
theorem itoa_ok (n : Int) (h0 : -9223372036854775808 ≤ n) (h1 : n ≤ 9223372036854775807) : PC Tryz.prog 66 [.av (.int .i64) (.i .i64 n)] (.av .str (.s (Lib.itoa n))) := by
  refine PC.of_grow (vs0 := [.int .i64 n]) (v := .string ⟨(Lib.itoa n).toArray⟩) ?_ (fun _ _ => ⟨rfl, rfl, rfl⟩) fun imm w ht => Tryz.strconv_Itoa n h0 h1 w (tabIs ht)
  intro imm w vs h
  match vs, h with
  | [a], ⟨⟨f1, _, h1⟩, _⟩ =>
    rw [cells_one rfl f1] at h1
    simp at h1
    rw [h1]
theorem num_ok (n : Int) (h0 : -9223372036854775808 ≤ n) (h1 : n ≤ 9223372036854775807) : PC Tryz.prog 33 [.av (.int .i64) (.i .i64 n)] (.av .str (.s (Lib.itoa n))) := by
  refine PC.of <| ACalls.of_vc laid mixed Tryz.func33 rfl (by kernel_rfl) cf0 (by simp [Tryz.ntmps33]) fun imm0 w0 => ?_
  (simp (maxSteps := 2000000) (disch := first | omega | assumption) [zz])
  refine callV_pc (formatInt_ok n h0 h1) rfl rfl (by simp) (by simp [argLe, TV.er, AV.er, coC]) ?_
  (simp (maxSteps := 2000000) (disch := first | omega | assumption) [zz, Tryz.f33])
end Go.Proofs.YthdgnfnalimcnaaGreatDoor
