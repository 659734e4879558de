/- Traces that a Db law looks at. No condition beyond each theorem's own. -/
import Derived.Test.YthdgnfnalimcnaaGreatDoorD8
import Derived.Test.YthdgnfnalimcnaaGreatDoorP17
import Derived.Test.YthdgnfnalimcnaaGreatDoorP34T
import Derived.Test.YthdgnfnalimcnaaGreatDoorPB
set_option linter.unusedSimpArgs false
set_option linter.unusedVariables false
set_option linter.unusedSectionVars false
section
set_option maxRecDepth 100000
/-! Traces that a Db law looks at. -/
namespace Go.Proofs.YthdgnfnalimcnaaGreatDoor
open Go Go.Ab
open Classical
variable [Sel]
attribute [local simp] vc_skip hiLen zN capV cpyD appendZ clearV delV mdel copyVT extV ovV vc_label vc_region vc_drawn vc_seq vc_cond vc_block vc_exit vc_goto vc_ret vc_loop vc_scope vcOps_nil vcOps_cons vcPs_nil vcPs_cons vcDs_nil vcDs_cons vcD impB mkd wkOf isCallV rdOK_eq rdO_nil rdO_tmp rdO_const rdO_global rdO_func rdL_nil rdL_cons rdT_av rdT_cst rdT_pel rdT_tup rdT_junk rdT_loc St.app Op.operands Call.operands vcG_eq iteP wkOf isCallV vcOp putK_eq pureV ev co coC asI asB asS isNil nkOf derefV fieldAddrV indexAddrV indexV lowV boundsV sliceV pickV_eq unV convV convB bytesOf capOf lenV minV maxV withSrc slice3V lookupV mapOf mfind mput scalT mapUpdV makeSliceV appendM appendN growM growOK zM binI isConst binV St.put upd KSeq_n KSeq_x KSeq_g KSeq_r KBlock_n KBlock_x KBlock_g KBlock_r KScope_n KScope_x KScope_r KRet_n KRet_r resL retTV TV.er AV.er AV.ers AV.erk AV.erks Tok.k Heap.er_nil Heap.er_cons Heap.er_app HObj.er_var HObj.er_map Heap.keys_nil Heap.keys_cons Heap.keys_app hget hset subT getP setP_nil setP_one setP_two setPo_some storeV buildV buildL partsOf capTV argOK entry St.of lk_nil lk_cons leLoc siterOf_siter gB_undef gB_av gB_cst undef isNE_tmp isSlT nslD nslDs mslOf mstrV copyV copyK unsV ustrV hdel dataV sameP mtbD isSlN slNilV vcDo_nil vcDo_cons isLt sft sftD softV rangeMV entryMV cmpV

/-- a trace that may be looked at -/
def TrW (t : Trace) : Prop := TrP t ∧ (∀ r ∈ t.reads, r.path.length ≤ 1000000000) ∧ ∀ r ∈ t.outs, r.path.length ≤ 1000000000
theorem TrW.ok {t : Trace} (h : TrW t) : TrOK t := ⟨h.1.1.1, h.1.2.1⟩
theorem TrW.check {t : Trace} (h : TrW t) : PC Tryz.prog 18 [.av (tyOf Tryz.prog 34) (encTrace t)] (.av (.int .i64) (.i .i64 (checkV t))) := rcheck_ok t h.1 h.2.1 h.2.2
theorem TrP.great {t : Trace} (h : TrP t) : PC Tryz.prog 10 [.av (tyOf Tryz.prog 34) (encTrace t)] (.av (.int .i64) (.i .i64 (if wideTV t = true then 1 else 0))) := great_ok t h.1.1 h.2.1 h.1.2 h.2.2
theorem encTraces_trs (l : List Trace) : encTraces l = .sl .no (trs l) := rfl
theorem trs_one (x : Trace) : trs [x] = [encTrace x] := rfl
end Go.Proofs.YthdgnfnalimcnaaGreatDoor
end
section
set_option maxRecDepth 100000
/-! What a reading of traces tells. -/
namespace Go.Proofs.YthdgnfnalimcnaaGreatDoor
open Go Go.Ab
open Classical
variable [Sel]
attribute [local simp] vc_skip hiLen zN capV cpyD appendZ clearV delV mdel copyVT extV ovV vc_label vc_region vc_drawn vc_seq vc_cond vc_block vc_exit vc_goto vc_ret vc_loop vc_scope vcOps_nil vcOps_cons vcPs_nil vcPs_cons vcDs_nil vcDs_cons vcD impB mkd wkOf isCallV rdOK_eq rdO_nil rdO_tmp rdO_const rdO_global rdO_func rdL_nil rdL_cons rdT_av rdT_cst rdT_pel rdT_tup rdT_junk rdT_loc St.app Op.operands Call.operands vcG_eq iteP wkOf isCallV vcOp putK_eq pureV ev co coC asI asB asS isNil nkOf derefV fieldAddrV indexAddrV indexV lowV boundsV sliceV pickV_eq unV convV convB bytesOf capOf lenV minV maxV withSrc slice3V lookupV mapOf mfind mput scalT mapUpdV makeSliceV appendM appendN growM growOK zM binI isConst binV St.put upd KSeq_n KSeq_x KSeq_g KSeq_r KBlock_n KBlock_x KBlock_g KBlock_r KScope_n KScope_x KScope_r KRet_n KRet_r resL retTV TV.er AV.er AV.ers AV.erk AV.erks Tok.k Heap.er_nil Heap.er_cons Heap.er_app HObj.er_var HObj.er_map Heap.keys_nil Heap.keys_cons Heap.keys_app hget hset subT getP setP_nil setP_one setP_two setPo_some storeV buildV buildL partsOf capTV argOK entry St.of lk_nil lk_cons leLoc siterOf_siter gB_undef gB_av gB_cst undef isNE_tmp isSlT nslD nslDs mslOf mstrV copyV copyK unsV ustrV hdel dataV sameP mtbD isSlN slNilV vcDo_nil vcDo_cons isLt sft sftD softV rangeMV entryMV cmpV

theorem decI' {n : Nat} {x : AV} (h : WTy Tryz.prog (n + 1) 3 x) : ∃ m : Int, x = .i .i64 m := by
  simp only [WTy, ty3] at h
  obtain ⟨m, rfl, hm⟩ := h
  exact ⟨m, rfl⟩
theorem decTraces {n : Nat} {x : AV} (h : WTy Tryz.prog (n + 6) 22 x) : ∃ l : List Trace, x = encTraces l ∧ l.length ≤ maxLen ∧ ∀ r ∈ l, okTrace r := by
  rw [WTy] at h
  simp only [ty22] at h
  obtain ⟨xs, rfl, hlen, h⟩ := h
  obtain ⟨l, rfl, h2⟩ := list_dec h fun y hy => decTrace hy
  exact ⟨l, rfl, by simpa using hlen, h2⟩
theorem okTrace_P {t : Trace} (h : okTrace t) : TrP t := by
  obtain ⟨h1, ⟨h2, h3⟩, h4, h5⟩ := h
  have hx := max63
  exact ⟨⟨Nat.le_trans h2 hx, fun r hr => Nat.le_trans (h3 r hr).2 hx⟩, Nat.le_trans h4 hx, fun r hr => Nat.le_trans (h5 r hr).2 hx⟩
theorem okTrace_W {t : Trace} (h : okTrace t) (hb : bulkA (encTrace t) ≤ 1048576) : TrW t := by
  obtain ⟨b1, b2⟩ := bulk_trace hb
  exact ⟨okTrace_P h, fun r h => Nat.le_trans (b1 r h) (by omega), fun r h => Nat.le_trans (b2 r h) (by omega)⟩
theorem bulk_traces {l : List Trace} {N : Nat} (h : bulkA (encTraces l) ≤ N) : ∀ t ∈ l, bulkA (encTrace t) ≤ N := by
  intro t ht
  have := bulkAs_mem (List.mem_map.2 ⟨t, ht, rfl⟩ : encTrace t ∈ l.map encTrace)
  simp only [encTraces, bulkA] at h
  omega
end Go.Proofs.YthdgnfnalimcnaaGreatDoor
end
