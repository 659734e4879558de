/- Numbers of texts: the program takes one apart. No condition beyond each theorem's own. -/
import Derived.Test.YtmkpbigaafemnaaDoorP45
import Derived.Test.YtmkpbigaafemnaaDoorQ0
import Derived.Test.YtmkpbigaafemnaaDoorShelf2
import Derived.Below
set_option linter.unusedSimpArgs false
set_option linter.unusedVariables false
set_option linter.unusedSectionVars false
set_option maxRecDepth 100000
/-! Numbers of texts: the program takes one apart. -/
namespace Go.Proofs.YtmkpbigaafemnaaDoor
open Go Go.Ab
open Classical
attribute [local simp] vc_skip vc_label vc_region vc_drawn vc_seq vc_cond vc_block vc_exit vc_goto vc_ret vc_loop vc_scope vcOps_nil vcOps_cons vcPs_nil vcPs_cons vcDs_nil vcDs_cons vcD impB mkd wkOf isCallV rdOK_eq rdO_nil rdO_tmp rdO_const rdO_global rdO_func rdL_nil rdL_cons rdT_av rdT_cst rdT_pel rdT_tup rdT_junk rdT_loc St.app Op.operands Call.operands vcG_eq iteP wkOf isCallV vcOp putK_eq pureV ev co coC asI asB asS isNil nkOf derefV fieldAddrV indexAddrV indexV lowV boundsV sliceV pickV_eq unV convV convB bytesOf capOf lenV minV withSrc slice3V lookupV mapOf mfind mput scalT mapUpdV makeSliceV appendM appendN growM growOK zM binI isConst binV St.put upd KSeq_n KSeq_x KSeq_g KSeq_r KBlock_n KBlock_x KBlock_g KBlock_r KScope_n KScope_x KScope_r KRet_n KRet_r resL retTV TV.er AV.er AV.ers AV.erk AV.erks Tok.k Heap.er_nil Heap.er_cons Heap.er_app HObj.er_var HObj.er_map Heap.keys_nil Heap.keys_cons Heap.keys_app hget hset subT getP setP_nil setP_one setP_two setPo_some storeV buildV buildL partsOf capTV argOK entry St.of lk_nil lk_cons leLoc siterOf_siter gB_undef gB_av gB_cst undef isNE_tmp isSlT nslD nslDs mslOf mstrV copyV copyK unsV ustrV hdel dataV sameP mtbD isSlN slNilV vcDo_nil vcDo_cons isLt sft sftD softV

/-- a contract of the kit's, whose callee leaves all that was there as it was -/
theorem ACalls.of_below {P : Program} {f : FuncId} {args : List TV} {vs0 : List Value} {R : TV → Heap → Prop} (hdet : ∀ imm w vs, ARs P (g0 imm) w args vs → vs = vs0)
    (h : ∀ imm w, TabOK P imm w → Calls P f vs0.toArray w fun e w' => ∃ v r, e = .returned v ∧ R r [] ∧ (∀ imm, AR P (g0 imm) w' r v) ∧ RowKit.Below w.heap.size w w') : ACalls P f args [] R := by
  intro imm w vs hrep hargs
  have := hdet imm w vs.toList hargs
  have hv : vs = vs0.toArray := by rw [← this]
  subst hv
  refine (h imm w hrep.tab).mono ?_
  rintro e w' ⟨v, r, rfl, hR, hr, hb⟩
  have hlt : ∀ (b : Nat) (o : Obj), w.heap[b]? = some o → w'.heap[b]? = some o := by
    intro b o hbo
    have h1 := (Array.getElem?_eq_some_iff.1 hbo).1
    rw [hb.block b h1]; exact hbo
  have hk : ImmKept (g0 imm) w w' := fun b cs E fz _ hbo => ⟨cs, E, fz, hlt _ _ hbo, rfl, fun _ _ => rfl⟩
  refine ⟨v, r, imm, [], rfl, hR, hr _, ⟨fun b hbo => ?_, by simp [Heap.keys], by simp, hrep.tab.keep (g := g0 imm) (g' := g0 imm) (Gh.le_refl _) hrep.imm hk⟩, ?_⟩
  · obtain ⟨cs, E, fz, h1, h2⟩ := hrep.imm b hbo
    exact ⟨cs, E, fz, hlt _ _ h1, h2⟩
  · exact {
      os := hb.os, tape := hb.tape, output := hb.output
      size := hb.size
      frame := fun b hbo _ => ⟨hb.block b hbo, rfl⟩
      imm := fun _ => Nat.le_refl _
      kept := fun b cs E fz h0 hbo => hk b cs E fz h0 hbo
      dom := fun b hbo => by simp [Heap.keys] at hbo }
@[simp] theorem fnok107 : fnOK Tryd.prog 107 = true := by kernel_rfl
@[simp] theorem isne107 : isNE Tryd.prog (.func 107) = false := isNE_func fnok107
@[simp] theorem fnok91 : fnOK Tryd.prog 91 = true := by kernel_rfl
@[simp] theorem isne91 : isNE Tryd.prog (.func 91) = false := isNE_func fnok91
theorem errs : errVars Tryd.prog = [1, 2] := by kernel_rfl
theorem errCell {imm : Nat → Nat} {w : World} (h : TabOK Tryd.prog imm w) {n : Nat} (hn : n ∈ errVars Tryd.prog) : ∃ ev, w.cell? ⟨n, 0, none⟩ = some ev ∧ (ev = .nilIface ∨ ∃ te pe, ev = .iface te pe) := by
  obtain ⟨_, cs, E, fz, v, h1, h2, h3⟩ := h.2 n hn
  exact ⟨v, by simp [World.cell?, h1, h2], h3⟩
/-- what ParseInt returns -/
def parseR (s : List UInt8) (r : TV) (H' : Heap) : Prop := H' = [] ∧ ((∃ v, Lib.parseIntB 64 s = .ok v ∧ r = .tup [(.int .i64, .i .i64 v), (.iface, .nilifc)]) ∨
  (∀ v, Lib.parseIntB 64 s ≠ .ok v) ∧ ∃ n N, r = .tup [(.int .i64, .i .i64 n), (.iface, .ifc 183 (.ptr N .other []))])
theorem bytesWorld_below (w : World) (e : TypeId) (t : ByteArray)  : RowKit.Below w.heap.size w (Lib.bytesWorld w e t) := by
  exact ⟨rfl, rfl, rfl, by rw [Lib.bytesWorld_size]; omega, fun k hk => Lib.bytesWorld_at_old w e t k hk⟩
theorem parse_det (s : List UInt8) : ∀ imm w vs, ARs Tryd.prog (g0 imm) w [.av .str (.s s), .av (.int .i64) (.i .i64 10), .av (.int .i64) (.i .i64 64)] vs → vs = [.string ⟨s.toArray⟩, .int .i64 10, .int .i64 64] := by
  intro imm w vs h
  match vs, h with
  | [a, b, c], ⟨⟨f1, _, h1⟩, ⟨f2, _, h2⟩, ⟨f3, _, h3⟩, _⟩ =>
    rw [cells_one rfl f1] at h1
    rw [cells_one rfl f2] at h2
    rw [cells_one rfl f3] at h3
    simp at h1 h2 h3
    rw [h1, h2, h3]
theorem err_AR {w : World} {n : Int} {N : Nat} (imm : Nat → Nat) : AR Tryd.prog (g0 imm) w (.tup [(.int .i64, .i .i64 n), (.iface, .ifc 183 (.ptr N .other []))]) (.tuple #[.int .i64 n, .iface 183 (.pointer (some ⟨N, 0, none⟩))]) := by
  refine ⟨[.int .i64 n, .iface 183 (.pointer (some ⟨N, 0, none⟩))], rfl, VV_mkint, ⟨rfl, ?_⟩, trivial⟩
  simp [VC, Value.cells, formed, TyD.isAgg, offP]
theorem parseInt_ok (s : List UInt8) (hs : s.length ≤ 1000000000) : ACalls Tryd.prog 107 [.av .str (.s s), .av (.int .i64) (.i .i64 10), .av (.int .i64) (.i .i64 64)] [] (parseR s) := by
  by_cases hv : ∃ v, Lib.parseIntB 64 s = .ok v
  · obtain ⟨v, hv⟩ := hv
    refine ACalls.of_below (parse_det s) fun imm w ht => ?_
    refine (Tryd.strconv_ParseInt_10_at64_ok ⟨s.toArray⟩ (by simp [ByteArray.size]; omega) v (by simpa using hv) w).mono ?_
    rintro e w' ⟨rfl, hw⟩
    refine ⟨_, _, rfl, ⟨rfl, .inl ⟨v, hv, rfl⟩⟩, fun imm => ⟨[.int .i64 v, .nilIface], rfl, VV_mkint, ⟨rfl, by simp [VC, Value.cells]⟩, trivial⟩, ?_⟩
    rcases hw with rfl | ⟨t, rfl⟩
    · exact RowKit.Below.refl _ _
    · exact bytesWorld_below _ _ _
  · have hne : ∀ v, Lib.parseIntB 64 s ≠ .ok v := fun v h => hv ⟨v, h⟩
    by_cases hr : Lib.parseIntB 64 s = .range
    · refine ACalls.of_below (parse_det s) fun imm w ht => ?_
      obtain ⟨ev, h1, h2⟩ := errCell ht (n := 2) (by rw [errs]; simp)
      refine (Tryd.strconv_ParseInt_10_at64_range ⟨s.toArray⟩ (by simp [ByteArray.size]; omega) (by simpa using hr) ev w h1 h2).mono ?_
      rintro e w' ⟨N, rfl, _, _, hb⟩
      exact ⟨_, _, rfl, ⟨rfl, .inr ⟨hne, _, N, rfl⟩⟩, fun imm => err_AR imm, hb⟩
    · have hsx : Lib.parseIntB 64 s = Lib.parseIntB 64 [] := by
        cases hx : Lib.parseIntB 64 s <;> first | exact absurd hx hr | rfl | exact absurd hx (hne _)
      refine ACalls.of_below (parse_det s) fun imm w ht => ?_
      obtain ⟨ev, h1, h2⟩ := errCell ht (n := 1) (by rw [errs]; simp)
      refine (Tryd.strconv_ParseInt_10_at64_syntax ⟨s.toArray⟩ (by simp [ByteArray.size]; omega) (by simpa using hsx) ev w h1 h2).mono ?_
      rintro e w' ⟨N, rfl, _, _, hb⟩
      exact ⟨_, _, rfl, ⟨rfl, .inr ⟨hne, _, N, rfl⟩⟩, fun imm => err_AR imm, hb⟩
theorem parse_range {s : List UInt8} {v : Int} (hw : Lib.parseIntB 64 s = .ok v) : -9223372036854775808 ≤ v ∧ v ≤ 9223372036854775807 := by
  unfold Lib.parseIntB at hw
  split at hw
  · cases hw
  · simp only at hw
    split at hw
    · cases hw
    · cases hw
    · split at hw
      · cases hw
      · split at hw
        · cases hw
        · rename_i h1 h2
          cases hw
          split
          · rename_i h3
            have : ¬ 2 ^ (64 - 1) < _ := fun h => h2 ⟨h3, h⟩
            simp at this
            omega
          · rename_i h3
            have : ¬ 2 ^ (64 - 1) ≤ _ := fun h => h1 ⟨h3, h⟩
            simp at this
            omega
theorem int_ok (s : List UInt8) (hs : s.length ≤ 1000000000) : PC Tryd.prog 91 [.av .str (.s s)] (intTV (intV s)) := by
  refine PC.of <| ACalls.of_vc laid mixed Tryd.func91 rfl (by kernel_rfl) cf0 (by simp [Tryd.ntmps91]) fun imm0 w0 => ?_
  (simp (maxSteps := 2000000) (disch := first | omega | assumption) [i64_in, tnS, Int.toNat_add, Int.toNat_mul, List.getElem?_cons_zero, List.getElem_cons_zero])
  refine callV_all (R := parseR s) rfl (by simp [argOK]) (by simp) ?_ ?_
  · exact ACalls.args (by simpa [Heap.er_nil] using parseInt_ok s hs) (by simp [argLe, TV.er, AV.er, coC])
  rintro r H' ⟨rfl, ⟨v, hv, rfl⟩ | ⟨hne, n, N, rfl⟩⟩
  · have hi : intV s = if Lib.itoa v = s then some v else none := by unfold intV; rw [hv]
    obtain ⟨hv0, hv1⟩ := parse_range hv
    (simp (maxSteps := 2000000) (disch := first | omega | assumption) [i64_in, tnS, Int.toNat_add, Int.toNat_mul, List.getElem?_cons_zero, List.getElem_cons_zero])
    refine callV_pc (num_ok v hv0 hv1) rfl rfl (by simp) (by simp [argLe, TV.er, AV.er]) ?_
    by_cases hq : Lib.itoa v = s
    · rw [if_pos hq] at hi
      (simp (maxSteps := 2000000) (disch := first | omega | assumption) [i64_in, tnS, Int.toNat_add, Int.toNat_mul, List.getElem?_cons_zero, List.getElem_cons_zero, hq, hi, Tryd.f91, intTV])
    · rw [if_neg hq] at hi
      (simp (maxSteps := 2000000) (disch := first | omega | assumption) [i64_in, tnS, Int.toNat_add, Int.toNat_mul, List.getElem?_cons_zero, List.getElem_cons_zero, hq, hi, Tryd.f91, intTV])
  · have hi : intV s = none := by
      unfold intV
      split
      · rename_i v hv; exact absurd hv (hne v)
      · rfl
    (simp (maxSteps := 2000000) (disch := first | omega | assumption) [i64_in, tnS, Int.toNat_add, Int.toNat_mul, List.getElem?_cons_zero, List.getElem_cons_zero, Tryd.f91, hi, intTV])
end Go.Proofs.YtmkpbigaafemnaaDoor
