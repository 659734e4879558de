/- The program's SHA-256: a hash of nothing, bytes added, the sum. No condition beyond each theorem's own. -/
import Derived.Test.YtmkpbigaafemnaaDoorS6
import Derived.Test.YtmkpbigaafemnaaDoorS3
set_option linter.unusedSimpArgs false
set_option linter.unusedVariables false
set_option linter.unusedSectionVars false
set_option maxRecDepth 100000
/-! The program's SHA-256: a hash of nothing, bytes added, the sum. -/
namespace Go.Proofs.YtmkpbigaafemnaaDoor
open Go Go.Ab
open Classical
attribute [local simp] vc_skip vc_label vc_region vc_drawn vc_seq vc_cond vc_block vc_exit vc_goto vc_ret vc_loop vc_scope vcOps_nil vcOps_cons vcPs_nil vcPs_cons vcDs_nil vcDs_cons vcD impB mkd wkOf isCallV rdOK_eq rdO_nil rdO_tmp rdO_const rdO_global rdO_func rdL_nil rdL_cons rdT_av rdT_cst rdT_pel rdT_tup rdT_junk rdT_loc St.app Op.operands Call.operands vcG_eq iteP wkOf isCallV vcOp putK_eq pureV ev co coC asI asB asS isNil nkOf derefV fieldAddrV indexAddrV indexV lowV boundsV sliceV pickV_eq unV convV convB bytesOf capOf lenV minV withSrc slice3V lookupV mapOf mfind mput scalT mapUpdV makeSliceV appendM appendN growM growOK zM binI isConst binV St.put upd KSeq_n KSeq_x KSeq_g KSeq_r KBlock_n KBlock_x KBlock_g KBlock_r KScope_n KScope_x KScope_r KRet_n KRet_r resL retTV TV.er AV.er AV.ers AV.erk AV.erks Tok.k Heap.er_nil Heap.er_cons Heap.er_app HObj.er_var HObj.er_map Heap.keys_nil Heap.keys_cons Heap.keys_app hget hset subT getP setP_nil setP_one setP_two setPo_some storeV buildV buildL partsOf capTV argOK entry St.of lk_nil lk_cons leLoc siterOf_siter gB_undef gB_av gB_cst undef isNE_tmp isSlT nslD nslDs mslOf mstrV copyV copyK unsV ustrV hdel dataV sameP mtbD isSlN slNilV vcDo_nil vcDo_cons isLt sft sftD softV

@[simp] theorem fnok58 : fnOK Tryd.prog 58 = true := by kernel_rfl
@[simp] theorem isne58 : isNE Tryd.prog (.func 58) = false := isNE_func fnok58
@[simp] theorem fnok59 : fnOK Tryd.prog 59 = true := by kernel_rfl
@[simp] theorem isne59 : isNE Tryd.prog (.func 59) = false := isNE_func fnok59
@[simp] theorem fnok60 : fnOK Tryd.prog 60 = true := by kernel_rfl
@[simp] theorem isne60 : isNE Tryd.prog (.func 60) = false := isNE_func fnok60
@[simp] theorem fnok33 : fnOK Tryd.prog 33 = true := by kernel_rfl
@[simp] theorem isne33 : isNE Tryd.prog (.func 33) = false := isNE_func fnok33
abbrev cfNew : Cfg := ⟨fun n => n == 3, fun _ => false⟩
noncomputable abbrev HashT : TyD := tyOf Tryd.prog 138
noncomputable def hashO (B : Nat) (s : List UInt32) (op : AV) (n : Nat) : Heap := [(B, .var HashT (.agg [.agg (s.map encW), op, .i .u64 n]))]
theorem new_ok : ACalls Tryd.prog 58 [] [] fun r H' => ∃ B, r = .av .ptr (.ptr B HashT []) ∧ H' = hashO B h8 (.sl .full []) 0 := by
  refine ACalls.of_vc laid mixed Tryd.func58 rfl (by kernel_rfl) cfNew (by simp [Tryd.ntmps58]) fun imm0 w0 => ?_
  (simp (maxSteps := 2000000) (disch := first | omega | assumption) [i64_in, tnS, Int.toNat_add, Int.toNat_mul, List.getElem?_cons_zero, List.getElem_cons_zero])
  refine callV_pc begin_ok rfl rfl (by simp) (by simp [argLe]) ?_
  (simp (maxSteps := 2000000) (disch := first | omega | assumption) [i64_in, tnS, Int.toNat_add, Int.toNat_mul, List.getElem?_cons_zero, List.getElem_cons_zero])
  intro B
  (simp (maxSteps := 2000000) (disch := first | omega | assumption) [i64_in, tnS, Int.toNat_add, Int.toNat_mul, List.getElem?_cons_zero, List.getElem_cons_zero, Tryd.f58])
  simp [hashO, AV.erks_eq, Function.comp_def, AV.erk]

theorem hashN_app {t u : List UInt8} : ∀ {n : Nat}, 64 * n ≤ t.length → hashN (t ++ u) n = hashN t n
  | 0, _ => rfl
  | n+1, h => by
    rw [hashN, hashN, hashN_app (by omega), List.drop_append_of_le_length (by omega), List.take_append_of_le_length (by simp; omega)]

abbrev cfAdd : Cfg := ⟨fun _ => false, fun n => n == 39⟩
set_option maxHeartbeats 4000000 in
theorem add_ok (B : Nat) (l : List UInt8) (hl : l.length ≤ 1000000000000) :
    ACalls Tryd.prog 59 [.av .ptr (.ptr B HashT []), .av .str (.s l)] (hashO B h8 (.sl .full []) 0) fun r H' => r = .tup [] ∧ H' = hashO B (hashN l (l.length / 64)) (encBs (l.drop (64 * (l.length / 64)))) l.length := by
  have hbe : ∀ x, encBs x = .sl .no (x.map encB) := fun _ => rfl
  refine ACalls.of_vc laid mixed Tryd.func59 rfl (by kernel_rfl) cfAdd (by simp [Tryd.ntmps59]) fun imm0 w0 => ?_
  (simp (maxSteps := 2000000) (disch := first | omega | assumption) [i64_in, tnS, Int.toNat_add, Int.toNat_mul, List.getElem?_cons_zero, List.getElem_cons_zero, hashO, u64_in, appendV])
  (repeat ((with_reducible refine And.intro ?_ ?_); (· first | omega | (show barB _ _ = true; kernel_rfl) | (show rdJ _ _ _ _ _ = true; kernel_rfl) | (show tailB _ _ _ = true; kernel_rfl) | (show sftB _ _ _ = true; kernel_rfl))))
  refine AT.loopV (α := Nat) (fun k ver => St.of [(0, .av .ptr (.ptr B HashT []))] [] ver (hashO B (hashN l k) (encBs (l.drop (64 * k))) l.length))
    (fun k => 64 * k ≤ l.length) (fun k => l.length - 64 * k) 0 ?_ ?_ ?_
  · refine Le.ofW ?_ ?_ ?_ ?_ ?_ <;> simp [leTV, locsIn, leH_nil, leH_cons, leO_var, leA_agg, leA_i, leA_no, leA_own, leAs_cons, leAs_nil, encDigs, encTraces, encWant, encTrace, encReads, encRead, encMades, encMade, hashO, hashN, hbe] <;> try omega
  · simp
  · rintro k ver hk KL hN hE
    obtain ⟨R, hR⟩ : ∃ R, l.drop (64 * k) = R := ⟨_, rfl⟩
    have hRl : R.length = l.length - 64 * k := by rw [← hR]; simp
    have hkl := hashN_len l k
    have hn1 : hashN l (k+1) = compress (hashN l k) (R.take 64) := by rw [hashN, hR]
    have hn2 : l.drop (64 * (k+1)) = R.drop 64 := by rw [← hR, List.drop_drop]; congr 1
    rw [hR]
    obtain ⟨S, hS⟩ : ∃ S, hashN l k = S := ⟨_, rfl⟩
    rw [hS] at hn1 hkl ⊢
    refine vc_sound (cf := cfAdd) laid mixed _ _ _ (by kernel_rfl) ?_
    by_cases hlt : 64 ≤ R.length
    · have hlt' : (64 : Int) ≤ R.length := by omega
      (simp (maxSteps := 2000000) (disch := first | omega | assumption) [i64_in, tnS, Int.toNat_add, Int.toNat_mul, List.getElem?_cons_zero, List.getElem_cons_zero, hashO, hbe, hlt'])
      (repeat ((with_reducible refine And.intro ?_ ?_); (· first | omega | (show barB _ _ = true; kernel_rfl) | (show rdJ _ _ _ _ _ = true; kernel_rfl) | (show tailB _ _ _ = true; kernel_rfl) | (show sftB _ _ _ = true; kernel_rfl))))
      refine callV_all (R := fun r H' => r = .tup [] ∧ H' = hashO B (compress S (R.take 64)) (encBs R) l.length) rfl (by simp [argOK]) (by simp) ?_ ?_
      · have := takeH_ok B S (R.take 64) hkl (by simp; omega) (op := encBs R) (nn := .i .u64 l.length) (by simp) (by simp [AV.erk])
        simpa [hashO, hbe, TV.er, AV.er, AV.ers_eq, AV.erk, AV.erks, AV.erks_eq, Heap.er_cons, Heap.er_nil, HObj.er_var, Function.comp_def, Tok.k] using this
      · rintro r H' ⟨rfl, rfl⟩
        (simp (maxSteps := 2000000) (disch := first | omega | assumption) [i64_in, tnS, Int.toNat_add, Int.toNat_mul, List.getElem?_cons_zero, List.getElem_cons_zero, hashO, hbe])
        (repeat ((with_reducible refine And.intro ?_ ?_); (· first | omega | (show barB _ _ = true; kernel_rfl) | (show rdJ _ _ _ _ _ = true; kernel_rfl) | (show tailB _ _ _ = true; kernel_rfl) | (show sftB _ _ _ = true; kernel_rfl))))
        refine hN _ (k+1) ?_ (by omega) (by omega)
        rw [hn1, hn2]
        have htk : List.take R.length (List.map encB R) = List.map encB R := List.take_of_length_le (by simp)
        refine Le.ofW ?_ ?_ ?_ ?_ ?_ <;> simp [leTV, locsIn, leH_nil, leH_cons, leO_var, leA_agg, leA_i, leA_no, leA_own, leAs_cons, leAs_nil, encDigs, encTraces, encWant, encTrace, encReads, encRead, encMades, encMade, hashO, hbe, htk] <;> try omega
    · have hlt' : ¬ (64 : Int) ≤ R.length := by omega
      have hk2 : l.length / 64 = k := by omega
      (simp (maxSteps := 2000000) (disch := first | omega | assumption) [i64_in, tnS, Int.toNat_add, Int.toNat_mul, List.getElem?_cons_zero, List.getElem_cons_zero, hashO, hbe, hlt'])
      refine hE _ _ (by simp) ?_
      (simp (maxSteps := 2000000) (disch := first | omega | assumption) [i64_in, tnS, Int.toNat_add, Int.toNat_mul, List.getElem?_cons_zero, List.getElem_cons_zero, Tryd.f59, hashO, hbe, hk2, hS, hR])
      simp [AV.erks_eq, Function.comp_def, AV.erk, Tok.k, AV.ers_eq, AV.er]

/-- the words behind blocks, from others on -/
def hashF (s : List UInt32) (t : List UInt8) : Nat → List UInt32
  | 0 => s
  | n+1 => compress (hashF s t n) ((t.drop (64*n)).take 64)
theorem hashF_len {s : List UInt32} (t : List UInt8) (hs : s.length = 8) : ∀ n, (hashF s t n).length = 8
  | 0 => hs
  | n+1 => compress_len (hashF_len t hs n)
def tailOf (op : List UInt8) (n : Nat) : List UInt8 := op ++ [128] ++ List.replicate (padN op.length) 0 ++ lenB n
abbrev cfSm : Cfg := ⟨fun n => n == 3, fun _ => false⟩
theorem bytesOf_encB : ∀ l : List UInt8, bytesOf (l.map encB) = some l
  | [] => rfl
  | b :: l => by simp [bytesOf, bytesOf_encB l]
set_option maxHeartbeats 4000000 in
theorem hsum_ok (B : Nat) (s : List UInt32) (op : List UInt8) (n : Nat) (hs : s.length = 8) (hop : op.length < 64) (hn : n ≤ 1000000000000) :
    ACalls Tryd.prog 60 [.av .ptr (.ptr B HashT [])] (hashO B s (encBs op) n) fun r H' => r = .av (tyOf Tryd.prog 24) (encD (digestW (hashF s (tailOf op n) ((tailOf op n).length / 64)))) ∧ H' = hashO B s (encBs op) n := by
  have hbe : ∀ x, encBs x = .sl .no (x.map encB) := fun _ => rfl
  refine ACalls.drop (R := fun r H' => r = .av (tyOf Tryd.prog 24) (encD (digestW (hashF s (tailOf op n) ((tailOf op n).length / 64)))) ∧ ∃ B2 o, H' = (B2, o) :: hashO B s (encBs op) n) ?_ ?_
  rotate_left
  · rintro r H' ⟨rfl, B2, o, rfl⟩
    exact ⟨_, List.sublist_cons_self _ _, rfl, rfl⟩
  have hp := padN_lt op.length
  refine ACalls.of_vc laid mixed Tryd.func60 rfl (by kernel_rfl) cfSm (by simp [Tryd.ntmps60]) fun imm0 w0 => ?_
  (simp (maxSteps := 2000000) (disch := first | omega | assumption) [i64_in, tnS, Int.toNat_add, Int.toNat_mul, List.getElem?_cons_zero, List.getElem_cons_zero, hashO, hbe])
  intro B2 hB2
  (simp (maxSteps := 2000000) (disch := first | omega | assumption) [i64_in, tnS, Int.toNat_add, Int.toNat_mul, List.getElem?_cons_zero, List.getElem_cons_zero, hashO, hbe, bytesOf_encB, appendV, hB2])
  (repeat ((with_reducible refine And.intro ?_ ?_); (· first | omega | (show barB _ _ = true; kernel_rfl) | (show rdJ _ _ _ _ _ = true; kernel_rfl) | (show tailB _ _ _ = true; kernel_rfl) | (show sftB _ _ _ = true; kernel_rfl))))
  refine AT.loopV (α := Nat × Nat) (fun k ver => St.of [(0, .av .ptr (.ptr B HashT [])), (2, .loc 2 []), (3, .av .ptr (.ptr B2 (.arr 8 129) [])), (4, .av (.slice 5) (.sl (.own k.2 (ver k.2)) ((op ++ [128] ++ List.replicate k.1 0).map encB)))] [(2, (tyOf Tryd.prog 24, .agg (List.replicate 32 (.i .u8 0))))] ver ((B2, .var (.arr 8 129) (.agg (s.map encW))) :: hashO B s (encBs op) n))
    (fun k => k.1 ≤ padN op.length) (fun k => padN op.length - k.1) (0, 23) ?_ ?_ ?_
  · refine Le.of ?_ ?_ ?_ ?_ ?_ <;> simp [leTV, locsIn, encDigs, encTraces, encWant, encTrace, encReads, encRead, encMades, encMade, encB_128, hashO, hbe] <;> try omega
  · simp
  rintro ⟨k, tk⟩ ver hk KL hN hE
  simp only at hk hN
  refine vc_sound (cf := cfSm) laid mixed _ _ _ (by kernel_rfl) ?_
  have hlen : ((op.length : Int) + ((k : Int) + 1)).tmod 64 = (((op.length + 1 + k) % 64 : Nat) : Int) := by
    rw [Int.tmod_eq_emod_of_nonneg (by omega)]; omega
  by_cases hkt : k < padN op.length
  · have hne := padN_less hkt
    have hne' : ¬ ((op.length : Int) + ((k : Int) + 1)).tmod 64 = 56 := by rw [hlen]; omega
    (simp (maxSteps := 2000000) (disch := first | omega | assumption) [i64_in, tnS, Int.toNat_add, Int.toNat_mul, List.getElem?_cons_zero, List.getElem_cons_zero, appendV, hne'])
    (repeat ((with_reducible refine And.intro ?_ ?_); (· first | omega | (show barB _ _ = true; kernel_rfl) | (show rdJ _ _ _ _ _ = true; kernel_rfl) | (show tailB _ _ _ = true; kernel_rfl) | (show sftB _ _ _ = true; kernel_rfl))))
    refine hN _ (k+1, 30) ?_ (by first | omega | (simp; done) | (simp; omega)) (by first | omega | (simp; done) | (simp; omega)); refine Le.of ?_ ?_ ?_ ?_ ?_ <;> simp [leTV, locsIn, encDigs, encTraces, encWant, encTrace, encReads, encRead, encMades, encMade, List.replicate_succ', encB_0, encB_128] <;> try omega
  have hke : k = padN op.length := by omega
  subst hke
  have hsp := padN_spec op.length
  have hne' : ((op.length : Int) + ((padN op.length : Int) + 1)).tmod 64 = 56 := by rw [hlen]; omega
  (simp (maxSteps := 2000000) (disch := first | omega | assumption) [i64_in, tnS, Int.toNat_add, Int.toNat_mul, List.getElem?_cons_zero, List.getElem_cons_zero, hne'])
  refine hE _ _ (by simp) ?_
  (simp (maxSteps := 2000000) (disch := first | omega | assumption) [i64_in, tnS, Int.toNat_add, Int.toNat_mul, List.getElem?_cons_zero, List.getElem_cons_zero, u64_in])
  refine AT.loopV (α := Nat × Nat) (fun k ver => St.of [(0, .av .ptr (.ptr B HashT [])), (2, .loc 2 []), (3, .av .ptr (.ptr B2 (.arr 8 129) [])), (4, .av (.slice 5) (.sl (.own k.2 (ver k.2)) ((op ++ [128] ++ List.replicate (padN op.length) 0 ++ (lenB n).take (8 - k.1)).map encB))), (5, .av (.int .i64) (.i .i64 (8 * (k.1 : Int) - 8)))] [(2, (tyOf Tryd.prog 24, .agg (List.replicate 32 (.i .u8 0))))] ver ((B2, .var (.arr 8 129) (.agg (s.map encW))) :: hashO B s (encBs op) n))
    (fun k => k.1 ≤ 8) (fun k => k.1) (8, tk) ?_ ?_ ?_
  · refine Le.of ?_ ?_ ?_ ?_ ?_ <;> simp [leTV, locsIn, encDigs, encTraces, encWant, encTrace, encReads, encRead, encMades, encMade, hashO, hbe] <;> try omega
  · simp
  rintro ⟨j, tk2⟩ ver2 hj KL2 hN2 hE2
  simp only at hj hN2
  refine vc_sound (cf := cfSm) laid mixed _ _ _ (by kernel_rfl) ?_
  cases j with
  | succ j =>
    have hlb : (lenB n).length = 8 := rfl
    have hst := lenB_step n j (by omega)
    have e3 := shr64 (n * 8) (8 * j) (by omega)
    have hst' : ((lenB n).map encB).take (8 - j) = ((lenB n).map encB).take (7 - j) ++ [encB (UInt8.ofNat (n * 8 / 2 ^ (8 * j)))] := by
      rw [← List.map_take, hst, List.map_append, List.map_take]; rfl
    have e8 := u8_of (n * 8 / 2 ^ (8 * j))
    simp at e8
    have hge : (0 : Int) ≤ 8 * (j : Int) := by omega
    push_cast at e3
    have hq : 8 * ((j : Int) + 1) - 8 = 8 * j := by omega
    (simp (maxSteps := 2000000) (disch := first | omega | assumption) [i64_in, tnS, Int.toNat_add, Int.toNat_mul, List.getElem?_cons_zero, List.getElem_cons_zero, appendV, e3, u8_of, hge, hashO, hq, hB2, Int.mul_comm 8 (n : Int), u64_in])
    (repeat ((with_reducible refine And.intro ?_ ?_); (· first | omega | (show barB _ _ = true; kernel_rfl) | (show rdJ _ _ _ _ _ = true; kernel_rfl) | (show tailB _ _ _ = true; kernel_rfl) | (show sftB _ _ _ = true; kernel_rfl))))
    refine hN2 _ (j, 45) ?_ (by first | omega | (simp; done) | (simp; omega)) (by first | omega | (simp; done) | (simp; omega)); refine Le.of ?_ ?_ ?_ ?_ ?_ <;> simp [leTV, locsIn, encDigs, encTraces, encWant, encTrace, encReads, encRead, encMades, encMade, hst', e8, hashO, hbe] <;> try omega
  | zero =>
    (simp (maxSteps := 2000000) (disch := first | omega | assumption) [i64_in, tnS, Int.toNat_add, Int.toNat_mul, List.getElem?_cons_zero, List.getElem_cons_zero, hashO])
    refine hE2 _ _ (by simp) ?_
    obtain ⟨T, hT⟩ : ∃ T, tailOf op n = T := ⟨_, rfl⟩
    have hTm : T.length % 64 = 0 := by
      rw [← hT]; simp [tailOf, lenB]; omega
    obtain ⟨M, hM⟩ : ∃ M, T.length = 64 * M := ⟨T.length / 64, by omega⟩
    have hTl : T.length ≤ 200 := by rw [← hT]; simp [tailOf, lenB]; omega
    have hTM : T.length / 64 = M := by omega
    have hTe : List.map encB op ++ encB 128 :: (List.replicate (padN op.length) (encB 0) ++ List.take 8 (List.map encB (lenB n))) = List.map encB T := by
      rw [← hT]; simp [tailOf, lenB]
    rw [hT, hTM]
    clear hE2 hN2
    (simp (maxSteps := 2000000) (disch := first | omega | assumption) [i64_in, tnS, Int.toNat_add, Int.toNat_mul, List.getElem?_cons_zero, List.getElem_cons_zero, hashO, hTe])
    refine AT.loopV (α := Nat) (fun k ver => St.of [(0, .av .ptr (.ptr B HashT [])), (2, .loc 2 []), (3, .av .ptr (.ptr B2 (.arr 8 129) [])), (4, .av (.slice 5) (encBs (T.drop (64 * k))))] [(2, (tyOf Tryd.prog 24, .agg (List.replicate 32 (.i .u8 0))))] ver ((B2, .var (.arr 8 129) (.agg ((hashF s T k).map encW))) :: hashO B s (encBs op) n))
      (fun k => k ≤ M) (fun k => M - k) 0 ?_ ?_ ?_
    · refine Le.of ?_ ?_ ?_ ?_ ?_ <;> simp [leTV, locsIn, encDigs, encTraces, encWant, encTrace, encReads, encRead, encMades, encMade, hashO, hbe, hashF] <;> try omega
    · simp
    rintro k ver3 hk KL3 hN3 hE3
    have hkl := hashF_len T hs k
    refine vc_sound (cf := cfSm) laid mixed _ _ _ (by kernel_rfl) ?_
    by_cases hlt : k < M
    · obtain ⟨R, hR⟩ : ∃ R, T.drop (64 * k) = R := ⟨_, rfl⟩
      have hRl : R.length = T.length - 64 * k := by rw [← hR]; simp
      have hn1 : hashF s T (k+1) = compress (hashF s T k) (R.take 64) := by rw [hashF, hR]
      have hn2 : T.drop (64 * (k+1)) = R.drop 64 := by rw [← hR, List.drop_drop]; congr 1
      rw [hR]
      have hpos : 0 < R.length := by omega
      (simp (maxSteps := 2000000) (disch := first | omega | assumption) [i64_in, tnS, Int.toNat_add, Int.toNat_mul, List.getElem?_cons_zero, List.getElem_cons_zero, hashO, hbe, hpos])
      (repeat ((with_reducible refine And.intro ?_ ?_); (· first | omega | (show barB _ _ = true; kernel_rfl) | (show rdJ _ _ _ _ _ = true; kernel_rfl) | (show tailB _ _ _ = true; kernel_rfl) | (show sftB _ _ _ = true; kernel_rfl))))
      refine callV_sub (R := fun r H' => r = .tup [] ∧ H' = [(B2, .var (.arr 8 129) (.agg ((compress (hashF s T k) (R.take 64)).map encW)))]) [(B2, .var (.arr 8 129) (.agg ((hashF s T k).map encW)))] (hashO B s (encBs op) n) (by simp [hashO, hbe]) rfl (by simp [argOK]) (by simp) ?_ ?_
      · have := take_ok B2 (hashF s T k) (R.take 64) hkl (by simp; omega)
        simpa [hashO, hbe, TV.er, AV.er, AV.ers_eq, AV.erk, AV.erks, AV.erks_eq, Heap.er_cons, Heap.er_nil, HObj.er_var, Function.comp_def, Tok.k] using this
      · rintro r H' ⟨rfl, rfl⟩ _
        refine ⟨_, HSub.refl _, ?_⟩
        (simp (maxSteps := 2000000) (disch := first | omega | assumption) [i64_in, tnS, Int.toNat_add, Int.toNat_mul, List.getElem?_cons_zero, List.getElem_cons_zero, hashO, hbe])
        (repeat ((with_reducible refine And.intro ?_ ?_); (· first | omega | (show barB _ _ = true; kernel_rfl) | (show rdJ _ _ _ _ _ = true; kernel_rfl) | (show tailB _ _ _ = true; kernel_rfl) | (show sftB _ _ _ = true; kernel_rfl))))
        have htk : List.take R.length (List.map encB R) = List.map encB R := List.take_of_length_le (by simp)
        refine hN3 _ (k+1) ?_ (by omega) (by omega)
        rw [hn1, hn2]
        refine Le.ofW ?_ ?_ ?_ ?_ ?_ <;> simp [leTV, locsIn, leH_nil, leH_cons, leO_var, leA_agg, leA_i, leA_no, leA_own, leAs_cons, leAs_nil, encDigs, encTraces, encWant, encTrace, encReads, encRead, encMades, encMade, hashO, hbe, htk] <;> try omega
    · obtain rfl : k = M := by omega
      have hdn : T.drop (64 * k) = [] := List.drop_eq_nil_of_le (by omega)
      rw [hdn]
      (simp (maxSteps := 2000000) (disch := first | omega | assumption) [i64_in, tnS, Int.toNat_add, Int.toNat_mul, List.getElem?_cons_zero, List.getElem_cons_zero, hashO, hbe])
      refine hE3 _ _ (by simp) ?_
      (simp (maxSteps := 2000000) (disch := first | omega | assumption) [i64_in, tnS, Int.toNat_add, Int.toNat_mul, List.getElem?_cons_zero, List.getElem_cons_zero, hashO])
      obtain ⟨D, hD⟩ : ∃ D, digestW (hashF s T k) = D := ⟨_, rfl⟩
      have hDl : D.length = 32 := by rw [← hD]; exact digestW_len _
      refine AT.loopV (α := Nat) (fun j ver => St.of [(2, .loc 2 []), (3, .av .ptr (.ptr B2 (.arr 8 129) [])), (6, .loc 6 []), (54, .av (.int .i64) (.i .i64 j))] [(2, (tyOf Tryd.prog 24, .agg (List.replicate 32 (.i .u8 0)))), (6, (tyOf Tryd.prog 24, .agg ((D.take j ++ List.replicate (32 - j) 0).map encB)))] ver ((B2, .var (.arr 8 129) (.agg ((hashF s T k).map encW))) :: hashO B s (encBs op) n))
        (fun j => j ≤ 32) (fun j => 32 - j) 0 ?_ ?_ ?_
      · refine Le.of ?_ ?_ ?_ ?_ ?_ <;> simp [leTV, locsIn, encDigs, encTraces, encWant, encTrace, encReads, encRead, encMades, encMade, encB_0, hashO, hbe] <;> try omega
      · simp
      · rintro j ver4 hj KL4 hN4 hE4
        refine vc_sound (cf := cfSm) laid mixed _ _ _ (by kernel_rfl) ?_
        by_cases hjt : j < 32
        · obtain ⟨q, hq⟩ : ∃ q : Nat, j / 4 = q := ⟨_, rfl⟩
          obtain ⟨r, hr⟩ : ∃ r : Nat, j % 4 = r := ⟨_, rfl⟩
          have hq' : (j : Int).tdiv 4 = (q : Int) := by rw [Int.tdiv_eq_ediv_of_nonneg (by omega)]; omega
          have hr' : (j : Int).tmod 4 = (r : Int) := by rw [Int.tmod_eq_emod_of_nonneg (by omega)]; omega
          have hjt' : (j : Int) < 32 := by omega
          obtain ⟨x, hx⟩ : ∃ x, (hashF s T k)[q]? = some x := ⟨_, List.getElem?_eq_getElem (by omega)⟩
          have hDj : D[j]? = some (x >>> UInt32.ofNat (24 - 8*r)).toUInt8 := by
            rw [← hD]
            simp [digestW, hjt, hq, hr, hx]
          have hsq : ((D.take j ++ List.replicate (32 - j) 0).map encB).set j (encB (x >>> UInt32.ofNat (24 - 8*r)).toUInt8) = (D.take (j+1) ++ List.replicate (32 - (j+1)) 0).map encB := by
            rw [← List.map_set, List.take_add_one, hDj, show 32 - j = (32 - (j+1)) + 1 by omega, List.replicate_succ]
            simp [List.set_append_right, hDl, Nat.min_eq_left (Nat.le_of_lt hjt)]
          generalize hashF s T k = H at *
          have hy := wlow (x >>> UInt32.ofNat (24 - 8*r))
          generalize (x >>> UInt32.ofNat (24 - 8*r)).toUInt8 = y at *
          have gx : ∀ g : q < H.length, H[q] = x := fun g => by rw [List.getElem?_eq_getElem g] at hx; simpa using hx
          (simp (maxSteps := 2000000) (disch := first | omega | assumption) [i64_in, tnS, Int.toNat_add, Int.toNat_mul, List.getElem?_cons_zero, List.getElem_cons_zero, hjt', hq', hr', gx, wshr, hy, hashO])
          (repeat ((with_reducible refine And.intro ?_ ?_); (· first | omega | (show barB _ _ = true; kernel_rfl) | (show rdJ _ _ _ _ _ = true; kernel_rfl) | (show tailB _ _ _ = true; kernel_rfl) | (show sftB _ _ _ = true; kernel_rfl))))
          simp only [List.map_append, List.map_take, List.map_replicate, encB_0] at hsq
          refine hN4 _ (j+1) ?_ (by first | omega | (simp; done) | (simp; omega)) (by first | omega | (simp; done) | (simp; omega)); refine Le.of ?_ ?_ ?_ ?_ ?_ <;> simp [leTV, locsIn, encDigs, encTraces, encWant, encTrace, encReads, encRead, encMades, encMade, hsq, encB_0, hashO] <;> try omega
        · obtain rfl : j = 32 := by omega
          (simp (maxSteps := 2000000) (disch := first | omega | assumption) [i64_in, tnS, Int.toNat_add, Int.toNat_mul, List.getElem?_cons_zero, List.getElem_cons_zero])
          refine hE4 _ _ (by simp) ?_
          (simp (maxSteps := 2000000) (disch := first | omega | assumption) [i64_in, tnS, Int.toNat_add, Int.toNat_mul, List.getElem?_cons_zero, List.getElem_cons_zero, Tryd.f60, hashO])
          rw [hD, encD_eq, List.take_of_length_le (by simp [hDl])]
          simp [AV.ers_eq, Function.comp_def, AV.er, AV.erk, AV.erks_eq, hbe, Tok.k]
end Go.Proofs.YtmkpbigaafemnaaDoor
