/- pack.Row; a digest's bytes. No condition beyond each theorem's own. -/
import Derived.Test.YtmkpbigaafemnaaDoorP18
import Derived.Test.YtmkpbigaafemnaaDoorQ0
set_option linter.unusedSimpArgs false
set_option linter.unusedVariables false
set_option linter.unusedSectionVars false
set_option maxRecDepth 100000
/-! pack.Row; a digest's bytes. -/
namespace Go.Proofs.YtmkpbigaafemnaaDoor
open Go Go.Ab
open Classical
attribute [local simp] vc_skip vc_label vc_region vc_drawn vc_seq vc_cond vc_block vc_exit vc_goto vc_ret vc_loop vc_scope vcOps_nil vcOps_cons vcPs_nil vcPs_cons vcDs_nil vcDs_cons vcD impB mkd wkOf isCallV rdOK_eq rdO_nil rdO_tmp rdO_const rdO_global rdO_func rdL_nil rdL_cons rdT_av rdT_cst rdT_pel rdT_tup rdT_junk rdT_loc St.app Op.operands Call.operands vcG_eq iteP wkOf isCallV vcOp putK_eq pureV ev co coC asI asB asS isNil nkOf derefV fieldAddrV indexAddrV indexV lowV boundsV sliceV pickV_eq unV convV convB bytesOf capOf lenV minV withSrc slice3V lookupV mapOf mfind mput scalT mapUpdV makeSliceV appendM appendN growM growOK zM binI isConst binV St.put upd KSeq_n KSeq_x KSeq_g KSeq_r KBlock_n KBlock_x KBlock_g KBlock_r KScope_n KScope_x KScope_r KRet_n KRet_r resL retTV TV.er AV.er AV.ers AV.erk AV.erks Tok.k Heap.er_nil Heap.er_cons Heap.er_app HObj.er_var HObj.er_map Heap.keys_nil Heap.keys_cons Heap.keys_app hget hset subT getP setP_nil setP_one setP_two setPo_some storeV buildV buildL partsOf capTV argOK entry St.of lk_nil lk_cons leLoc siterOf_siter gB_undef gB_av gB_cst undef isNE_tmp isSlT nslD nslDs mslOf mstrV copyV copyK unsV ustrV hdel dataV sameP mtbD isSlN slNilV vcDo_nil vcDo_cons isLt sft sftD softV

@[simp] theorem fnok55 : fnOK Tryd.prog 55 = true := by kernel_rfl
@[simp] theorem isne55 : isNE Tryd.prog (.func 55) = false := isNE_func fnok55
@[simp] theorem fnok53 : fnOK Tryd.prog 53 = true := by kernel_rfl
@[simp] theorem isne53 : isNE Tryd.prog (.func 53) = false := isNE_func fnok53
/-- a row's bytes -/
def rowV : List (List UInt8) → List UInt8
  | [] => []
  | s :: l => Lib.itoa s.length ++ 58 :: s ++ rowV l
theorem rowV_app : ∀ a b, rowV (a ++ b) = rowV a ++ rowV b
  | [], _ => rfl
  | s :: a, b => by
    have := rowV_app a b
    simp only [List.cons_append, rowV, this]
    simp
theorem rowV_take_le (l : List (List UInt8)) (k : Nat) : (rowV (l.take k)).length ≤ (rowV l).length := by
  conv => rhs; rw [← List.take_append_drop k l, rowV_app]
  simp
def strs' (l : List (List UInt8)) : List AV := l.map AV.s
theorem strs'_get (p : List (List UInt8)) (k : Nat) (h : k < p.length) : (strs' p)[k]? = some (.s p[k]) := by simp [strs', List.getElem?_eq_getElem h]
@[simp] theorem strs'_length (l : List (List UInt8)) : (strs' l).length = l.length := by simp [strs']
abbrev cfRow : Cfg := ⟨fun n => n == 3, fun n => n == 3⟩
set_option maxHeartbeats 8000000 in
theorem row_ok (l : List (List UInt8)) (hn : l.length ≤ 9223372036854775807) (hl : (rowV l).length ≤ 10000000000) :
    PC Tryd.prog 55 [.av (.slice 9) (.sl .no (strs' l))] (.av .str (.s (rowV l))) := by
  unfold PC
  refine ACalls.sub (R := fun r H' => r = .av .str (.s (rowV l))) ?_ (fun r H' hr _ => ⟨[], HSub.of_sub (List.nil_sublist _), hr, rfl⟩)
  refine ACalls.of_vc laid mixed Tryd.func55 rfl (by kernel_rfl) cfRow (by simp [Tryd.ntmps55]) fun imm0 w0 => ?_
  (simp (maxSteps := 2000000) (disch := first | omega | assumption) [i64_in, tnS, Int.toNat_add, Int.toNat_mul, List.getElem?_cons_zero, List.getElem_cons_zero])
  intro b
  refine AT.loop' (α := Nat × Heap) (fun x => St.of [(3, .av .ptr (.ptr b bldD [])), (6, .av (.slice 9) (.sl .no (strs' l))), (7, .av (.int .i64) (.i .i64 l.length)), (8, .av (.int .i64) (.i .i64 x.1))] [] (fun _ => 0) x.2)
    (fun x => x.1 ≤ l.length ∧ BS b (rowV (l.take x.1)) x.2) (fun x => l.length - x.1) (0, [(b, .var bldD (.agg [.nilptr, .nsl]))]) ?_ ?_ ?_
  · refine Le.of ?_ ?_ ?_ ?_ ?_ <;> simp [leTV, locsIn, encDigs, encTraces, encWant, encTrace, encReads, encRead, encMades, encMade, lk_nil] <;> try omega
  · exact ⟨by omega, .fresh _ (.inl rfl) rfl⟩
  rintro ⟨k, H⟩ ⟨hk, hB⟩ KL hN hE
  simp only at hk hB hN
  refine vc_sound (cf := cfRow) laid mixed _ _ _ (by kernel_rfl) ?_
  have htl := rowV_take_le l k
  by_cases hlt : k < l.length
  · have hlt' : (k : Int) < l.length := by omega
    have hg := strs'_get l k hlt
    have htl2 := rowV_take_le l (k+1)
    have hsn : rowV (l.take (k+1)) = rowV (l.take k) ++ Lib.itoa l[k].length ++ [58] ++ l[k] := by
      rw [List.take_succ_eq_append_getElem hlt, rowV_app]
      simp [rowV]
    rw [hsn] at htl2
    simp at htl2
    obtain ⟨s, hs⟩ : ∃ s, s = l[k] := ⟨_, rfl⟩
    rw [← hs] at hg hsn htl2
    (simp (maxSteps := 2000000) (disch := first | omega | assumption) [i64_in, tnS, Int.toNat_add, Int.toNat_mul, List.getElem?_cons_zero, List.getElem_cons_zero, hlt', hg])
    refine callV_pc (itoa_ok s.length (by omega) (by omega)) rfl rfl (by simp) (by simp [argLe, TV.er, AV.er]) ?_
    (simp (maxSteps := 2000000) (disch := first | omega | assumption) [i64_in, tnS, Int.toNat_add, Int.toNat_mul, List.getElem?_cons_zero, List.getElem_cons_zero])
    refine callV_all (R := fun r H' => r = .tup [(.int .i64, .i .i64 (Lib.itoa s.length).length), (.iface, .nilifc)] ∧ BS b (rowV (l.take k) ++ Lib.itoa s.length) H') rfl (by simp [argOK]) (by simp) ?_ ?_
    · have := ws_ok b (rowV (l.take k)) (Lib.itoa s.length) H hB (by omega)
      simpa [TV.er, AV.er, hB.er] using this
    rintro r H1 ⟨rfl, hB1⟩
    (simp (maxSteps := 2000000) (disch := first | omega | assumption) [i64_in, tnS, Int.toNat_add, Int.toNat_mul, List.getElem?_cons_zero, List.getElem_cons_zero])
    refine callV_all (R := fun r H' => r = .av .iface .nilifc ∧ BS b (rowV (l.take k) ++ Lib.itoa s.length ++ [58]) H') rfl (by simp [argOK]) (by simp) ?_ ?_
    · show ACalls _ _ _ (Heap.er H1) _
      rw [hB1.er]
      exact ACalls.args (wb_ok b (rowV (l.take k) ++ Lib.itoa s.length) 58 H1 hB1 (by simp; omega)) (by simp [argLe, TV.er, AV.er, coC])
    rintro r H2 ⟨rfl, hB2⟩
    (simp (maxSteps := 2000000) (disch := first | omega | assumption) [i64_in, tnS, Int.toNat_add, Int.toNat_mul, List.getElem?_cons_zero, List.getElem_cons_zero])
    refine callV_all (R := fun r H' => r = .tup [(.int .i64, .i .i64 s.length), (.iface, .nilifc)] ∧ BS b (rowV (l.take k) ++ Lib.itoa s.length ++ [58] ++ s) H') rfl (by simp [argOK]) (by simp) ?_ ?_
    · have := ws_ok b (rowV (l.take k) ++ Lib.itoa s.length ++ [58]) s H2 hB2 (by simp; omega)
      simpa [TV.er, AV.er, hB2.er] using this
    rintro r H3 ⟨rfl, hB3⟩
    (simp (maxSteps := 2000000) (disch := first | omega | assumption) [i64_in, tnS, Int.toNat_add, Int.toNat_mul, List.getElem?_cons_zero, List.getElem_cons_zero])
    refine hN _ (k+1, H3) ?_ ⟨by omega, by rw [hsn]; exact hB3⟩ (by simp; omega)
    refine Le.of ?_ ?_ ?_ ?_ ?_ <;> simp [leTV, locsIn, encDigs, encTraces, encWant, encTrace, encReads, encRead, encMades, encMade, lk_nil] <;> try omega
  · have hlt' : ¬ (k : Int) < l.length := by omega
    (simp (maxSteps := 2000000) (disch := first | omega | assumption) [i64_in, tnS, Int.toNat_add, Int.toNat_mul, List.getElem?_cons_zero, List.getElem_cons_zero, hlt'])
    refine hE _ _ (by simp) ?_
    rw [List.take_of_length_le (by omega)] at hB
    (simp (maxSteps := 2000000) (disch := first | omega | assumption) [i64_in, tnS, Int.toNat_add, Int.toNat_mul, List.getElem?_cons_zero, List.getElem_cons_zero])
    refine callV_all (R := fun r H' => r = .av .str (.s (rowV l))) rfl (by simp [argOK]) (by simp) ?_ ?_
    · have := string_ok b (rowV l) H hB (by omega)
      simpa [TV.er, AV.er, hB.er] using this
    rintro r H1 rfl
    (simp (maxSteps := 2000000) (disch := first | omega | assumption) [i64_in, tnS, Int.toNat_add, Int.toNat_mul, List.getElem?_cons_zero, List.getElem_cons_zero, Tryd.f55])
abbrev cfSum : Cfg := ⟨fun n => n == 1, fun _ => false⟩
theorem encD_bys (d : Dig) : encD d = .agg (bys d) := rfl
theorem dsum0_ok (d : Dig) (hd : d.length = 32) : PC Tryd.prog 53 [.av (.arr 32 5) (encD d)] (.av .str (.s d)) := by
  unfold PC
  refine ACalls.sub (R := fun r H' => r = .av .str (.s d)) ?_ (fun r H' hr _ => ⟨[], HSub.of_sub (List.nil_sublist _), hr, rfl⟩)
  refine ACalls.of_vc laid mixed Tryd.func53 rfl (by kernel_rfl) cfSum (by simp [Tryd.ntmps53]) fun imm0 w0 => ?_
  have h1 : (bys d).take 32 = bys d := List.take_of_length_le (by simp [hd])
  have h2 := bytesOf_bys d
  (simp (maxSteps := 2000000) (disch := first | omega | assumption) [i64_in, tnS, Int.toNat_add, Int.toNat_mul, List.getElem?_cons_zero, List.getElem_cons_zero, encD_bys, h1, h2])
  intro b
  (simp (maxSteps := 2000000) (disch := first | omega | assumption) [i64_in, tnS, Int.toNat_add, Int.toNat_mul, List.getElem?_cons_zero, List.getElem_cons_zero, Tryd.f53])
end Go.Proofs.YtmkpbigaafemnaaDoor
