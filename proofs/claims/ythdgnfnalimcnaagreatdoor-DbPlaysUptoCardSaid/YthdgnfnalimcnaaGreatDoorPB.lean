/- The second form's bound: what a reading's bulk tells of its texts. No condition beyond each theorem's own. -/
import Derived.Test.YthdgnfnalimcnaaGreatDoorPD
import Derived.Test.YthdgnfnalimcnaaGreatDoorCards
import Derived.Test.YthdgnfnalimcnaaGreatDoorTie
import Derived.WalkKit
import Derived.ProofKit
import Derived.OpenShut
import Derived.JoinedOf
import Derived.Deep.DeepHandedRow
import Derived.Lib.LaidTab
import Derived.LaidSub
import Derived.LaidLaws
import Derived.Lay
set_option linter.unusedSimpArgs false
set_option linter.unusedVariables false
set_option linter.unusedSectionVars false
set_option maxRecDepth 100000
/-! The second form's bound: what a reading's bulk tells of its texts. -/
namespace Go.Proofs.YthdgnfnalimcnaaGreatDoor
open Go Go.Ab
open Classical

attribute [local simp] vc_skip hiLen zN capV cpyD appendZ clearV delV mdel copyVT extV ovV vc_label vc_region vc_drawn vc_seq vc_cond vc_block vc_exit vc_goto vc_ret vc_loop vc_scope vcOps_nil vcOps_cons vcPs_nil vcPs_cons vcDs_nil vcDs_cons vcD impB mkd wkOf isCallV rdOK_eq rdO_nil rdO_tmp rdO_const rdO_global rdO_func rdL_nil rdL_cons rdT_av rdT_cst rdT_pel rdT_tup rdT_junk rdT_loc St.app Op.operands Call.operands vcG_eq iteP wkOf isCallV vcOp putK_eq pureV ev co coC asI asB asS isNil nkOf derefV fieldAddrV indexAddrV indexV lowV boundsV sliceV pickV_eq unV convV convB bytesOf capOf lenV minV maxV withSrc slice3V lookupV mapOf mfind mput scalT mapUpdV makeSliceV appendM appendN growM growOK zM binI isConst binV St.put upd KSeq_n KSeq_x KSeq_g KSeq_r KBlock_n KBlock_x KBlock_g KBlock_r KScope_n KScope_x KScope_r KRet_n KRet_r resL retTV TV.er AV.er AV.ers AV.erk AV.erks Tok.k Heap.er_nil Heap.er_cons Heap.er_app HObj.er_var HObj.er_map Heap.keys_nil Heap.keys_cons Heap.keys_app hget hset subT getP setP_nil setP_one setP_two setPo_some storeV buildV buildL partsOf capTV argOK entry St.of lk_nil lk_cons leLoc siterOf_siter gB_undef gB_av gB_cst undef isNE_tmp isSlT nslD nslDs mslOf mstrV copyV copyK unsV ustrV hdel dataV sameP mtbD isSlN slNilV vcDo_nil vcDo_cons isLt sft sftD softV rangeMV entryMV cmpV

mutual
def bulkA : AV → Nat
  | .s l => l.length + 1
  | .agg xs => bulkAs xs + 1
  | .sl _ xs => bulkAs xs + 1
  | _ => 0
def bulkAs : List AV → Nat
  | [] => 0
  | x :: xs => bulkA x + bulkAs xs
end
mutual
theorem bulkA_le {H : Type} : ∀ d : DataW H, bulkA (avOf d) ≤ Rows.uptoBulk d
  | .lit (.bool b) => by simp [avOf, bulkA]
  | .lit (.int k n) => by simp [avOf, bulkA]
  | .lit (.string s) => by simp [avOf, bulkA, Rows.uptoBulk]
  | .nil => by simp [avOf, bulkA, bulkAs, Rows.uptoBulk]
  | .slice es sp => by
    have := bulkAs_le es
    simp only [avOf, bulkA, Rows.uptoBulk]; omega
  | .agg ps => by
    have := bulkAs_le ps
    simp only [avOf, bulkA, Rows.uptoBulk]; omega
  | .ptr _ => by simp [avOf, bulkA]
  | .iface _ _ => by simp [avOf, bulkA]
  | .map _ => by simp [avOf, bulkA]
  | .held _ => by simp [avOf, bulkA]
  | .lit (.float _ _) => by simp [avOf, bulkA]
  | .lit .nil => by simp [avOf, bulkA]
theorem bulkAs_le {H : Type} : ∀ l : List (DataW H), bulkAs (avOfs l) ≤ Rows.uptoBulkAll l
  | [] => by simp [avOfs, bulkAs]
  | d :: l => by
    have h1 := bulkA_le d
    have h2 := bulkAs_le l
    simp only [avOfs, bulkAs, Rows.uptoBulkAll]; omega
end
theorem bulk_app {H : Type} : ∀ a b : List (DataW H), Rows.uptoBulkAll (a ++ b) = Rows.uptoBulkAll a + Rows.uptoBulkAll b
  | [], b => by simp [Rows.uptoBulkAll]
  | x :: a, b => by
    have := bulk_app a b
    simp only [List.cons_append, Rows.uptoBulkAll, this]; omega
theorem bulkAs_mem {x : AV} : ∀ {l : List AV}, x ∈ l → bulkA x ≤ bulkAs l
  | y :: l, h => by
    rcases List.mem_cons.1 h with rfl | h
    · simp only [bulkAs]; omega
    · have := bulkAs_mem h; simp only [bulkAs]; omega
theorem bulk_read {r : Read} {l : List Read} (h : r ∈ l) : r.path.length ≤ bulkA (encReads l) := by
  have := bulkAs_mem (List.mem_map.2 ⟨r, h, rfl⟩ : encRead r ∈ l.map encRead)
  simp only [encRead, bulkA, bulkAs] at this
  simp only [encReads, bulkA]; omega
theorem bulk_made {r : Made} {l : List Made} (h : r ∈ l) : r.path.length ≤ bulkA (encMades l) := by
  have := bulkAs_mem (List.mem_map.2 ⟨r, h, rfl⟩ : encMade r ∈ l.map encMade)
  simp only [encMade, bulkA, bulkAs] at this
  simp only [encMades, bulkA]; omega
theorem bulk_trace {t : Trace} {N : Nat} (h : bulkA (encTrace t) ≤ N) : (∀ r ∈ t.reads, r.path.length ≤ N) ∧ ∀ r ∈ t.outs, r.path.length ≤ N := by
  simp only [encTrace, bulkA, bulkAs] at h
  exact ⟨fun r hr => by have := bulk_read hr; omega, fun r hr => by have := bulk_made hr; omega⟩
end Go.Proofs.YthdgnfnalimcnaaGreatDoor
