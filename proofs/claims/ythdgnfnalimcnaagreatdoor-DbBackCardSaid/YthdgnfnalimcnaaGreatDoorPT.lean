/- What the rows' lists of tables give; the witness's values. No condition beyond each theorem's own. -/
import Derived.Test.YthdgnfnalimcnaaGreatDoorPB
import Derived.Test.YthdgnfnalimcnaaGreatDoorQ0
import Derived.Test.YthdgnfnalimcnaaGreatDoorCards
import Derived.Test.YthdgnfnalimcnaaGreatDoorTie
import Derived.WalkKit
import Derived.ProofKit
import Derived.OpenShut
import Derived.JoinedOf
import Derived.Deep.DeepHandedRow
import Derived.Lib.LaidTab
import Derived.LaidSub
import Derived.LaidLaws
import Derived.Lay
set_option linter.unusedSimpArgs false
set_option linter.unusedVariables false
set_option linter.unusedSectionVars false
set_option maxRecDepth 100000
/-! What the rows' lists of tables give; the witness's values. -/
namespace Go.Proofs.YthdgnfnalimcnaaGreatDoor
open Go Go.Ab
open Classical


theorem gPowG : Tryz.prog.globalNamed "internal/strconv.uint64pow10" = some 1 := by kernel_rfl
theorem VL_u64_mk {P : Program} {g : Gh} {w : World} {e : TypeId} (he : tyOf P e = .int .u64) : ∀ (zs : List Int), VL P g w e (zs.map (AV.i .u64 ·)) (zs.map (Value.int .u64 ·))
  | [] => by simp [VL]
  | z :: zs => by
    simp only [List.map_cons, VL]
    exact ⟨[.int .u64 z], _, rfl, by simp [VC, he], VL_u64_mk he zs⟩
theorem tabOKG [Sel] (ht : tabs Tryz.prog = [(1, TyD.arr 20 148, AV.agg (Lib.pow10Tab.map (AV.i .u64 ·)))]) {W : World} (h : Lib.TabIs Tryz.prog W "internal/strconv.uint64pow10" .u64 Lib.pow10Tab) : ∀ n d x, (n, d, x) ∈ tabs Tryz.prog → szD Tryz.prog d ≤ immOf W n ∧ VC Tryz.prog (g0 (immOf W)) W d x (cellsAt W n 0 (szD Tryz.prog d)) ∧ 0 < szD Tryz.prog d ∧ ∃ cs E fz, W.heap[n]? = some (.cells cs E fz) ∧ cs.size = szD Tryz.prog d := by
  intro n d x hx
  rw [ht] at hx
  simp only [List.mem_singleton, Prod.mk.injEq] at hx
  obtain ⟨rfl, rfl, rfl⟩ := hx
  have hsz : szD Tryz.prog (.arr 20 148) = 20 := by simp [szD]
  unfold Lib.TabIs World.var? at h
  rw [gPowG] at h
  simp only [Option.bind_some] at h
  split at h
  · rename_i cs E fz hh
    obtain rfl := Option.some.inj h
    have hlen : (Lib.pow10Tab.map fun z => Value.int .u64 z).toArray.size = 20 := by simp [Lib.pow10Tab]
    have hi : immOf W 1 = 20 := by simp only [immOf, hh]; exact hlen
    refine ⟨by rw [hsz, hi]; exact Nat.le_refl _, ?_, by rw [hsz]; decide, _, _, _, hh, hlen.trans hsz.symm⟩
    have hc : cellsAt W 1 0 20 = Lib.pow10Tab.map fun z => Value.int .u64 z := by
      unfold cellsAt
      rw [hh]
      simp only [List.drop_zero]
      exact List.take_of_length_le (by simp [Lib.pow10Tab])
    rw [hsz, hc]
    simp only [VC]
    exact ⟨by simp [Lib.pow10Tab], VL_u64_mk (by simp) _⟩
  · cases h
theorem errOfG [Sel] {W : World} {name nm : String} {x : DataW Unit} {g : Nat} {ti : TypeId} {ms : Array (String × TypeId)} (hno : (DataW.iface nm x).handleName? = none) (hg : Tryz.prog.globalNamed name = some g) (ht : (Tryz.prog.globals[g]?).map (·.type) = some ti) (hu : Tryz.prog.underlying ti = some (.interface ms))
    (h : laidMetH Tryz.prog [(name, .iface nm x)] W) : ErrAt (immOf W) W g := by
  have h1 : laidMet Tryz.prog [(name, .iface nm x)] W := by
    unfold laidMetH at h
    simpa [List.filter, hno] using h
  obtain ⟨ps, hv, _, _⟩ := h1
  obtain ⟨g', t, cs, fuel, p, q, e1, e2, e3, e4, _⟩ := hv
  rw [hg] at e1; cases e1
  rw [ht] at e2; cases e2
  obtain ⟨_, u, v, hcs, _⟩ := iface_of_trod hu e4
  unfold World.var? at e3
  rw [hg] at e3
  simp only [Option.bind_some] at e3
  split at e3
  · rename_i cs' E fz hh
    cases e3
    have hlen : cs.size = 1 := by rw [← Array.length_toList, hcs]; rfl
    refine ⟨by simp only [immOf, hh, hlen]; decide, cs, E, fz, .iface u v, hh, ?_, .inr ⟨u, v, rfl⟩⟩
    rw [← Array.getElem?_toList, hcs]; rfl
  · cases e3
theorem tErrG [Sel] {laid : List (String × DataW Unit)} {W : World} (h : laidMetH Tryz.prog laid W) (ht : tabs Tryz.prog = [(1, TyD.arr 20 148, AV.agg (Lib.pow10Tab.map (AV.i .u64 ·)))]) (he : errVars Tryz.prog = [2, 3] ∨ errVars Tryz.prog = [3, 2])
    (hp : laid.filter (fun x => x.1 == "internal/strconv.uint64pow10") = [("internal/strconv.uint64pow10", Rows.laid_internal_strconv_uint64pow10)])
    (hs : laid.filter (fun x => x.1 == "strconv.ErrSyntax") = [("strconv.ErrSyntax", Rows.laid_strconv_ErrSyntax)]) (hr : laid.filter (fun x => x.1 == "strconv.ErrRange") = [("strconv.ErrRange", Rows.laid_strconv_ErrRange)]) : TabOK Tryz.prog (immOf W) W := by
  refine ⟨tabOKG ht (Lib.tabIs_of_head (rest := []) gPowG (t := 176) (e := 148) (n := 20) (by kernel_rfl) (by kernel_rfl) (by kernel_rfl) (by kernel_rfl) (by kernel_rfl) ?_), ?_⟩
  · have := h.filter (fun x => x.1 == "internal/strconv.uint64pow10")
    rw [hp] at this
    exact this
  · intro n hn
    have hn : n = 2 ∨ n = 3 := by
      rcases he with he | he <;> rw [he] at hn <;> simp only [List.mem_cons, List.not_mem_nil, or_false] at hn
      · exact hn
      · exact hn.symm
    rcases hn with rfl | rfl
    · have := h.filter (fun x => x.1 == "strconv.ErrSyntax")
      rw [hs] at this
      exact errOfG (name := "strconv.ErrSyntax") (nm := "*errors.errorString") (x := .ptr (.agg [.lit (.string [105, 110, 118, 97, 108, 105, 100, 32, 115, 121, 110, 116, 97, 120])])) (ti := 111) rfl (by kernel_rfl) (by kernel_rfl) (Tryz.underlying111) this
    · have := h.filter (fun x => x.1 == "strconv.ErrRange")
      rw [hr] at this
      exact errOfG (name := "strconv.ErrRange") (nm := "*errors.errorString") (x := .ptr (.agg [.lit (.string [118, 97, 108, 117, 101, 32, 111, 117, 116, 32, 111, 102, 32, 114, 97, 110, 103, 101])])) (ti := 111) rfl (by kernel_rfl) (by kernel_rfl) (Tryz.underlying111) this
end Go.Proofs.YthdgnfnalimcnaaGreatDoor
