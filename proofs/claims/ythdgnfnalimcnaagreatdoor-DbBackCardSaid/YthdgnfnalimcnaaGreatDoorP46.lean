/- Numbers of texts: the program takes one apart. No condition beyond each theorem's own. -/
import Derived.Test.YthdgnfnalimcnaaGreatDoorP45
import Derived.Test.YthdgnfnalimcnaaGreatDoorQ0
import Derived.Test.YthdgnfnalimcnaaGreatDoorShelf2
import Derived.Below
set_option linter.unusedSimpArgs false
set_option linter.unusedVariables false
set_option linter.unusedSectionVars false
set_option maxRecDepth 100000
/-! Numbers of texts: the program takes one apart. -/
namespace Go.Proofs.YthdgnfnalimcnaaGreatDoor
open Go Go.Ab
open Classical
variable [Sel] [SelPow] [SelErr]

theorem ACalls.of_below {P : Program} {f : FuncId} {args : List TV} {vs0 : List Value} {R : TV → Heap → Prop} (hdet : ∀ imm w vs, ARs P (g0 imm) w args vs → vs = vs0)
    (h : ∀ imm w, TabOK P imm w → Calls P f vs0.toArray w fun e w' => ∃ v r, e = .returned v ∧ R r [] ∧ (∀ imm, AR P (g0 imm) w' r v) ∧ RowKit.Below w.heap.size w w') : ACalls P f args [] R := by
  intro imm w vs hrep hargs
  have := hdet imm w vs.toList hargs
  have hv : vs = vs0.toArray := by rw [← this]
  subst hv
  refine (h imm w hrep.tab).mono ?_
  rintro e w' ⟨v, r, rfl, hR, hr, hb⟩
  have hlt : ∀ (b : Nat) (o : Obj), w.heap[b]? = some o → w'.heap[b]? = some o := by
    intro b o hbo
    have h1 := (Array.getElem?_eq_some_iff.1 hbo).1
    rw [hb.block b h1]; exact hbo
  have hk : ImmKept (g0 imm) w w' := fun b cs E fz _ hbo => ⟨cs, E, fz, hlt _ _ hbo, rfl, fun _ _ => rfl⟩
  refine ⟨v, r, imm, [], rfl, hR, hr _, ⟨fun b hbo => ?_, by simp [Heap.keys], by simp, hrep.tab.keep (g := g0 imm) (g' := g0 imm) (Gh.le_refl _) hrep.imm hk⟩, ?_⟩
  · obtain ⟨cs, E, fz, h1, h2⟩ := hrep.imm b hbo
    exact ⟨cs, E, fz, hlt _ _ h1, h2⟩
  · exact {
      os := hb.os, tape := hb.tape, output := hb.output
      size := hb.size
      frame := fun b hbo _ => ⟨hb.block b hbo, rfl⟩
      imm := fun _ => Nat.le_refl _
      kept := fun b cs E fz h0 hbo => hk b cs E fz h0 hbo
      dom := fun b hbo => by simp [Heap.keys] at hbo
      drawn := fun hd => by rw [SelErr.nod] at hd; cases hd }
@[simp] theorem fnok80 : fnOK Tryz.prog 80 = true := by kernel_rfl
@[simp] theorem isne80 : isNE Tryz.prog (.func 80) = false := isNE_func fnok80
@[simp] theorem fnok48 : fnOK Tryz.prog 48 = true := by kernel_rfl
@[simp] theorem isne48 : isNE Tryz.prog (.func 48) = false := isNE_func fnok48
theorem errIn {n : Nat} {nm : String} (h : (Tryz.prog.globals[n]?).map (·.name) = some nm) (hn : nm = "strconv.ErrSyntax" ∨ nm = "strconv.ErrRange") (ho : Sel.on nm = true) : n ∈ errVars Tryz.prog := by
  cases e : Tryz.prog.globals[n]? with
  | none => rw [e] at h; cases h
  | some gl =>
    rw [e] at h
    obtain rfl : gl.name = nm := Option.some.inj h
    exact errVars_mem e hn ho
theorem errsS : 2 ∈ errVars Tryz.prog := errIn (nm := "strconv.ErrSyntax") (by kernel_rfl) (.inl rfl) SelErr.syn
theorem errsR : 3 ∈ errVars Tryz.prog := errIn (nm := "strconv.ErrRange") (by kernel_rfl) (.inr rfl) SelErr.rng
theorem errCell {imm : Nat → Nat} {w : World} (h : TabOK Tryz.prog imm w) {n : Nat} (hn : n ∈ errVars Tryz.prog) : ∃ ev, w.cell? ⟨n, 0, none⟩ = some ev ∧ (ev = .nilIface ∨ ∃ te pe, ev = .iface te pe) := by
  obtain ⟨_, cs, E, fz, v, h1, h2, h3⟩ := h.2 n hn
  exact ⟨v, by simp [World.cell?, h1, h2], h3⟩
def parseR (s : List UInt8) (r : TV) (H' : Heap) : Prop := H' = [] ∧ ((∃ v, Lib.parseIntB 64 s = .ok v ∧ r = .tup [(.int .i64, .i .i64 v), (.iface, .nilifc)]) ∨
  (∀ v, Lib.parseIntB 64 s ≠ .ok v) ∧ ∃ n N, r = .tup [(.int .i64, .i .i64 n), (.iface, .ifc 168 (.ptr N .other []))])
theorem bytesWorld_below (w : World) (e : TypeId) (t : ByteArray)  : RowKit.Below w.heap.size w (Lib.bytesWorld w e t) := by
  exact ⟨rfl, rfl, rfl, by rw [Lib.bytesWorld_size]; omega, fun k hk => Lib.bytesWorld_at_old w e t k hk⟩
theorem parse_det (s : List UInt8) : ∀ imm w vs, ARs Tryz.prog (g0 imm) w [.av .str (.s s), .av (.int .i64) (.i .i64 10), .av (.int .i64) (.i .i64 64)] vs → vs = [.string ⟨s.toArray⟩, .int .i64 10, .int .i64 64] := by
  intro imm w vs h
  match vs, h with
  | [a, b, c], ⟨⟨f1, _, h1⟩, ⟨f2, _, h2⟩, ⟨f3, _, h3⟩, _⟩ =>
    rw [cells_one rfl f1] at h1
    rw [cells_one rfl f2] at h2
    rw [cells_one rfl f3] at h3
    simp at h1 h2 h3
    rw [h1, h2, h3]
theorem err_AR {w : World} {n : Int} {N : Nat} (imm : Nat → Nat) : AR Tryz.prog (g0 imm) w (.tup [(.int .i64, .i .i64 n), (.iface, .ifc 168 (.ptr N .other []))]) (.tuple #[.int .i64 n, .iface 168 (.pointer (some ⟨N, 0, none⟩))]) := by
  refine ⟨[.int .i64 n, .iface 168 (.pointer (some ⟨N, 0, none⟩))], rfl, VV_mkint, ⟨rfl, ?_⟩, trivial⟩
  simp [VC, Value.cells, formed, TyD.isAgg, offP]
theorem parseInt_ok (s : List UInt8) (hs : s.length ≤ 1000000000) : ACalls Tryz.prog 80 [.av .str (.s s), .av (.int .i64) (.i .i64 10), .av (.int .i64) (.i .i64 64)] [] (parseR s) := by
  by_cases hv : ∃ v, Lib.parseIntB 64 s = .ok v
  · obtain ⟨v, hv⟩ := hv
    refine ACalls.of_below (parse_det s) fun imm w ht => ?_
    refine (Tryz.strconv_ParseInt_10_at64_ok ⟨s.toArray⟩ (by simp [ByteArray.size]; omega) v (by simpa using hv) w).mono ?_
    rintro e w' ⟨rfl, hw⟩
    refine ⟨_, _, rfl, ⟨rfl, .inl ⟨v, hv, rfl⟩⟩, fun imm => ⟨[.int .i64 v, .nilIface], rfl, VV_mkint, ⟨rfl, by simp [VC, Value.cells]⟩, trivial⟩, ?_⟩
    rcases hw with rfl | ⟨t, rfl⟩
    · exact RowKit.Below.refl _ _
    · exact bytesWorld_below _ _ _
  · have hne : ∀ v, Lib.parseIntB 64 s ≠ .ok v := fun v h => hv ⟨v, h⟩
    by_cases hr : Lib.parseIntB 64 s = .range
    · refine ACalls.of_below (parse_det s) fun imm w ht => ?_
      obtain ⟨ev, h1, h2⟩ := errCell ht errsR
      refine (Tryz.strconv_ParseInt_10_at64_range ⟨s.toArray⟩ (by simp [ByteArray.size]; omega) (by simpa using hr) ev w h1 h2).mono ?_
      rintro e w' ⟨N, rfl, _, _, hb⟩
      exact ⟨_, _, rfl, ⟨rfl, .inr ⟨hne, _, N, rfl⟩⟩, fun imm => err_AR imm, hb⟩
    · have hsx : Lib.parseIntB 64 s = Lib.parseIntB 64 [] := by
        cases hx : Lib.parseIntB 64 s <;> first | exact absurd hx hr | rfl | exact absurd hx (hne _)
      refine ACalls.of_below (parse_det s) fun imm w ht => ?_
      obtain ⟨ev, h1, h2⟩ := errCell ht errsS
      refine (Tryz.strconv_ParseInt_10_at64_syntax ⟨s.toArray⟩ (by simp [ByteArray.size]; omega) (by simpa using hsx) ev w h1 h2).mono ?_
      rintro e w' ⟨N, rfl, _, _, hb⟩
      exact ⟨_, _, rfl, ⟨rfl, .inr ⟨hne, _, N, rfl⟩⟩, fun imm => err_AR imm, hb⟩
theorem parse_range {s : List UInt8} {v : Int} (hw : Lib.parseIntB 64 s = .ok v) : -9223372036854775808 ≤ v ∧ v ≤ 9223372036854775807 := by
  unfold Lib.parseIntB at hw
  split at hw
  · cases hw
  · simp only at hw
    split at hw
    · cases hw
    · cases hw
    · split at hw
      · cases hw
      · split at hw
        · cases hw
        · rename_i h1 h2
          cases hw
          split
          · rename_i h3
            have : ¬ 2 ^ (64 - 1) < _ := fun h => h2 ⟨h3, h⟩
            simp at this
            omega
          · rename_i h3
            have : ¬ 2 ^ (64 - 1) ≤ _ := fun h => h1 ⟨h3, h⟩
            simp at this
            omega
theorem int_ok (s : List UInt8) (hs : s.length ≤ 1000000000) : PC Tryz.prog 48 [.av .str (.s s)] (intTV (intV s)) := by
  refine PC.of <| ACalls.of_vc laid mixed Tryz.func48 rfl (by kernel_rfl) cf0 (by simp [Tryz.ntmps48]) fun imm0 w0 => ?_
  (simp (maxSteps := 2000000) (disch := first | omega | assumption) [zz])
  refine callV_all (R := parseR s) rfl (by simp [argOK]) (by simp) ?_ ?_
  · exact ACalls.args (by simpa [Heap.er_nil] using parseInt_ok s hs) (by simp [argLe, TV.er, AV.er, coC])
  rintro r H' ⟨rfl, ⟨v, hv, rfl⟩ | ⟨hne, n, N, rfl⟩⟩
  · have hi : intV s = if Lib.itoa v = s then some v else none := by unfold intV; rw [hv]
    obtain ⟨hv0, hv1⟩ := parse_range hv
    (simp (maxSteps := 2000000) (disch := first | omega | assumption) [zz])
    refine callV_pc (num_ok v hv0 hv1) rfl rfl (by simp) (by simp [argLe, TV.er, AV.er]) ?_
    by_cases hq : Lib.itoa v = s
    · rw [if_pos hq] at hi
      (simp (maxSteps := 2000000) (disch := first | omega | assumption) [zz, hq, hi, Tryz.f48, intTV])
    · rw [if_neg hq] at hi
      (simp (maxSteps := 2000000) (disch := first | omega | assumption) [zz, hq, hi, Tryz.f48, intTV])
  · have hi : intV s = none := by
      unfold intV
      split
      · rename_i v hv; exact absurd hv (hne v)
      · rfl
    (simp (maxSteps := 2000000) (disch := first | omega | assumption) [zz, Tryz.f48, hi, intTV])
end Go.Proofs.YthdgnfnalimcnaaGreatDoor
