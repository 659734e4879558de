/- The document's SHA-256: the whole text, the sum. No condition beyond each theorem's own. -/
import Derived.Test.YtmkpbigaafemnaaDoorS2
set_option linter.unusedSimpArgs false
set_option linter.unusedVariables false
set_option linter.unusedSectionVars false
set_option maxRecDepth 100000
/-! The document's SHA-256: the whole text, the sum. -/
namespace Go.Proofs.YtmkpbigaafemnaaDoor
open Go Go.Ab
open Classical
attribute [local simp] vc_skip vc_label vc_region vc_drawn vc_seq vc_cond vc_block vc_exit vc_goto vc_ret vc_loop vc_scope vcOps_nil vcOps_cons vcPs_nil vcPs_cons vcDs_nil vcDs_cons vcD impB mkd wkOf isCallV rdOK_eq rdO_nil rdO_tmp rdO_const rdO_global rdO_func rdL_nil rdL_cons rdT_av rdT_cst rdT_pel rdT_tup rdT_junk rdT_loc St.app Op.operands Call.operands vcG_eq iteP wkOf isCallV vcOp putK_eq pureV ev co coC asI asB asS isNil nkOf derefV fieldAddrV indexAddrV indexV lowV boundsV sliceV pickV_eq unV convV convB bytesOf capOf lenV minV withSrc slice3V lookupV mapOf mfind mput scalT mapUpdV makeSliceV appendM appendN growM growOK zM binI isConst binV St.put upd KSeq_n KSeq_x KSeq_g KSeq_r KBlock_n KBlock_x KBlock_g KBlock_r KScope_n KScope_x KScope_r KRet_n KRet_r resL retTV TV.er AV.er AV.ers AV.erk AV.erks Tok.k Heap.er_nil Heap.er_cons Heap.er_app HObj.er_var HObj.er_map Heap.keys_nil Heap.keys_cons Heap.keys_app hget hset subT getP setP_nil setP_one setP_two setPo_some storeV buildV buildL partsOf capTV argOK entry St.of lk_nil lk_cons leLoc siterOf_siter gB_undef gB_av gB_cst undef isNE_tmp isSlT nslD nslDs mslOf mstrV copyV copyK unsV ustrV hdel dataV sameP mtbD isSlN slNilV vcDo_nil vcDo_cons isLt sft sftD softV

@[simp] theorem fnok86 : fnOK Tryd.prog 86 = true := by kernel_rfl
@[simp] theorem isne86 : isNE Tryd.prog (.func 86) = false := isNE_func fnok86
@[simp] theorem fnok57 : fnOK Tryd.prog 57 = true := by kernel_rfl
@[simp] theorem isne57 : isNE Tryd.prog (.func 57) = false := isNE_func fnok57
abbrev encB (b : UInt8) : AV := .i .u8 b.toNat
/-- how many zeros -/
def padN (n : Nat) : Nat := (55 + 64 - n % 64) % 64
theorem padN_spec (n : Nat) : (n + 1 + padN n) % 64 = 56 := by unfold padN; omega
theorem padN_less {n k : Nat} (h : k < padN n) : (n + 1 + k) % 64 ≠ 56 := by unfold padN at h; omega
theorem padN_lt (n : Nat) : padN n < 64 := by unfold padN; omega
def lenB (n : Nat) : List UInt8 := [UInt8.ofNat (n * 8 / 2 ^ 56), UInt8.ofNat (n * 8 / 2 ^ 48), UInt8.ofNat (n * 8 / 2 ^ 40), UInt8.ofNat (n * 8 / 2 ^ 32), UInt8.ofNat (n * 8 / 2 ^ 24), UInt8.ofNat (n * 8 / 2 ^ 16), UInt8.ofNat (n * 8 / 2 ^ 8), UInt8.ofNat (n * 8)]
def padded (l : List UInt8) : List UInt8 := l ++ [128] ++ List.replicate (padN l.length) 0 ++ lenB l.length
theorem padded_len (l : List UInt8) : (padded l).length % 64 = 0 := by
  have := padN_spec l.length
  simp [padded, lenB]; omega
theorem padded_le (l : List UInt8) : (padded l).length ≤ l.length + 80 := by
  have := padN_lt l.length
  simp [padded, lenB]; omega

theorem lenB_step (N : Nat) : ∀ j, j < 8 → (lenB N).take (8 - j) = (lenB N).take (7 - j) ++ [UInt8.ofNat (N * 8 / 2 ^ (8 * j))]
  | 0, _ => by simp [lenB] | 1, _ => by simp [lenB] | 2, _ => by simp [lenB] | 3, _ => by simp [lenB] | 4, _ => by simp [lenB] | 5, _ => by simp [lenB] | 6, _ => by simp [lenB] | 7, _ => by simp [lenB]
  | j + 8, h => by omega
theorem u8_of (m : Nat) : IntKind.u8.wrap (m : Int) = ((UInt8.ofNat m).toNat : Int) := by
  simp [IntKind.wrap, IntKind.signed, IntKind.bits]
theorem u64_in {n : Int} (h0 : 0 ≤ n) (h1 : n < 18446744073709551616) : IntKind.u64.wrap n = n := by
  simp [IntKind.wrap, IntKind.signed, IntKind.bits]; omega
theorem shr64 (n k : Nat) (h : k < 64) : ((n : Int)).fdiv (2 ^ (min k IntKind.u64.bits)) = ((n / 2 ^ k : Nat) : Int) := by
  rw [show min k IntKind.u64.bits = k by simp [IntKind.bits]; omega, Int.fdiv_eq_ediv_of_nonneg _ (Int.le_of_lt (Int.pow_pos (by omega)))]
  norm_cast
theorem encB_128 : encB 128 = .i .u8 128 := rfl
theorem encB_0 : encB 0 = .i .u8 0 := rfl
set_option maxHeartbeats 1000000 in
theorem rwhole_ok (l : List UInt8) (hl : l.length ≤ 1000000000000) : PC Tryd.prog 86 [.av .str (.s l)] (.av (.slice 5) (encBs (padded l))) := by
  have hp := padN_lt l.length
  refine PC.of <| ACalls.of_vc laid mixed Tryd.func86 rfl (by kernel_rfl) cf0 (by simp [Tryd.ntmps86]) fun imm0 w0 => ?_
  (simp (maxSteps := 2000000) (disch := first | omega | assumption) [i64_in, tnS, Int.toNat_add, Int.toNat_mul, List.getElem?_cons_zero, List.getElem_cons_zero, appendV])
  (repeat ((with_reducible refine And.intro ?_ ?_); (· first | omega | (show barB _ _ = true; kernel_rfl) | (show rdJ _ _ _ _ _ = true; kernel_rfl) | (show tailB _ _ _ = true; kernel_rfl) | (show sftB _ _ _ = true; kernel_rfl))))
  refine AT.loopV (α := Nat × Nat) (fun k ver => St.of [(0, .av .str (.s l)), (3, .av (.slice 5) (.sl (.own k.2 (ver k.2)) ((l ++ [128] ++ List.replicate k.1 0).map encB)))] [] ver [])
    (fun k => k.1 ≤ padN l.length) (fun k => padN l.length - k.1) (0, 10) ?h0 ?h1 ?h2
  case h0 => refine Le.of ?_ ?_ ?_ ?_ ?_ <;> simp [leTV, locsIn, encDigs, encTraces, encWant, encTrace, encReads, encRead, encMades, encMade, encB_128] <;> try omega
  case h1 => simp
  case h2 =>
    rintro ⟨k, tk⟩ ver hk KL hN hE
    simp only at hk hN
    refine vc_sound (cf := cf0) laid mixed _ _ _ (by kernel_rfl) ?_
    have hlen : ((l.length : Int) + ((k : Int) + 1)).tmod 64 = (((l.length + 1 + k) % 64 : Nat) : Int) := by
      rw [Int.tmod_eq_emod_of_nonneg (by omega)]; omega
    by_cases hkt : k < padN l.length
    · have hne := padN_less hkt
      have hne' : ¬ ((l.length : Int) + ((k : Int) + 1)).tmod 64 = 56 := by rw [hlen]; omega
      (simp (maxSteps := 2000000) (disch := first | omega | assumption) [i64_in, tnS, Int.toNat_add, Int.toNat_mul, List.getElem?_cons_zero, List.getElem_cons_zero, appendV, hne'])
      (repeat ((with_reducible refine And.intro ?_ ?_); (· first | omega | (show barB _ _ = true; kernel_rfl) | (show rdJ _ _ _ _ _ = true; kernel_rfl) | (show tailB _ _ _ = true; kernel_rfl) | (show sftB _ _ _ = true; kernel_rfl))))
      refine hN _ (k+1, 17) ?_ (by first | omega | (simp; done) | (simp; omega)) (by first | omega | (simp; done) | (simp; omega)); refine Le.of ?_ ?_ ?_ ?_ ?_ <;> simp [leTV, locsIn, encDigs, encTraces, encWant, encTrace, encReads, encRead, encMades, encMade, List.replicate_succ', encB_0, encB_128] <;> try omega
    · have hke : k = padN l.length := by omega
      subst hke
      have hsp := padN_spec l.length
      have hne' : ((l.length : Int) + ((padN l.length : Int) + 1)).tmod 64 = 56 := by rw [hlen]; omega
      (simp (maxSteps := 2000000) (disch := first | omega | assumption) [i64_in, tnS, Int.toNat_add, Int.toNat_mul, List.getElem?_cons_zero, List.getElem_cons_zero, hne'])
      refine hE _ _ (by simp) ?_
      (simp (maxSteps := 2000000) (disch := first | omega | assumption) [i64_in, tnS, Int.toNat_add, Int.toNat_mul, List.getElem?_cons_zero, List.getElem_cons_zero, u64_in])
      refine AT.loopV (α := Nat × Nat) (fun k ver => St.of [(3, .av (.slice 5) (.sl (.own k.2 (ver k.2)) ((l ++ [128] ++ List.replicate (padN l.length) 0 ++ (lenB l.length).take (8 - k.1)).map encB))), (4, .av (.int .u64) (.i .u64 ((l.length * 8 : Nat) : Int))), (5, .av (.int .i64) (.i .i64 ((k.1 : Int) - 1)))] [] ver [])
        (fun k => k.1 ≤ 8) (fun k => k.1) (8, tk) ?g0 ?g1 ?g2
      case g0 => refine Le.of ?_ ?_ ?_ ?_ ?_ <;> simp [leTV, locsIn, encDigs, encTraces, encWant, encTrace, encReads, encRead, encMades, encMade] <;> try omega
      case g1 => simp
      case g2 =>
        rintro ⟨j, tk2⟩ ver2 hj KL2 hN2 hE2
        simp only at hj hN2
        refine vc_sound (cf := cf0) laid mixed _ _ _ (by kernel_rfl) ?_
        cases j with
        | zero =>
          (simp (maxSteps := 2000000) (disch := first | omega | assumption) [i64_in, tnS, Int.toNat_add, Int.toNat_mul, List.getElem?_cons_zero, List.getElem_cons_zero])
          refine hE2 _ _ (by simp) ?_
          (simp (maxSteps := 2000000) (disch := first | omega | assumption) [i64_in, tnS, Int.toNat_add, Int.toNat_mul, List.getElem?_cons_zero, List.getElem_cons_zero, Tryd.f86])
          rw [show (List.map encB l ++ encB 128 :: (List.replicate (padN l.length) (encB 0) ++ List.take 8 (List.map encB (lenB l.length)))) = (padded l).map encB by simp [padded, lenB]]
          simp [encBs, AV.ers_eq, AV.er, Function.comp_def]
        | succ j =>
          have hlb : (lenB l.length).length = 8 := rfl
          have hst := lenB_step l.length j (by omega)
          have e3 := shr64 (l.length * 8) (8 * j) (by omega)
          have hst' : ((lenB l.length).map encB).take (8 - j) = ((lenB l.length).map encB).take (7 - j) ++ [encB (UInt8.ofNat (l.length * 8 / 2 ^ (8 * j)))] := by
            rw [← List.map_take, hst, List.map_append, List.map_take]; rfl
          have e8 := u8_of (l.length * 8 / 2 ^ (8 * j))
          simp at e8
          have hge : (0 : Int) ≤ (j : Int) := by omega
          push_cast at e3
          (simp (maxSteps := 2000000) (disch := first | omega | assumption) [i64_in, tnS, Int.toNat_add, Int.toNat_mul, List.getElem?_cons_zero, List.getElem_cons_zero, appendV, e3, u8_of, hge])
          (repeat ((with_reducible refine And.intro ?_ ?_); (· first | omega | (show barB _ _ = true; kernel_rfl) | (show rdJ _ _ _ _ _ = true; kernel_rfl) | (show tailB _ _ _ = true; kernel_rfl) | (show sftB _ _ _ = true; kernel_rfl))))
          refine hN2 _ (j, 33) ?_ (by first | omega | (simp; done) | (simp; omega)) (by first | omega | (simp; done) | (simp; omega)); refine Le.of ?_ ?_ ?_ ?_ ?_ <;> simp [leTV, locsIn, encDigs, encTraces, encWant, encTrace, encReads, encRead, encMades, encMade, hst', e8] <;> try omega

/-- the words behind the blocks -/
def hashN (t : List UInt8) : Nat → List UInt32
  | 0 => h8
  | n+1 => compress (hashN t n) ((t.drop (64*n)).take 64)
theorem hashN_len (t : List UInt8) : ∀ n, (hashN t n).length = 8
  | 0 => rfl
  | n+1 => compress_len (hashN_len t n)
def digestW (h : List UInt32) : List UInt8 := (List.range 32).map fun i => (h.getD (i/4) 0 >>> UInt32.ofNat (24 - 8*(i%4))).toUInt8
def sha (l : List UInt8) : List UInt8 := digestW (hashN (padded l) ((padded l).length / 64))
theorem digestW_len (h : List UInt32) : (digestW h).length = 32 := by simp [digestW]
theorem encD_eq (d : List UInt8) : encD d = .agg (d.map encB) := rfl

set_option maxHeartbeats 1000000 in
theorem rsum_ok (l : List UInt8) (hl : l.length ≤ 1000000000000) : PC Tryd.prog 57 [.av .str (.s l)] (.av (tyOf Tryd.prog 24) (encD (sha l))) := by
  obtain ⟨t, ht⟩ : ∃ t, padded l = t := ⟨_, rfl⟩
  have htl : t.length ≤ 1000000000080 := by have := padded_le l; rw [ht] at this; omega
  have htm : t.length % 64 = 0 := by have := padded_len l; rw [ht] at this; omega
  obtain ⟨M, hM⟩ : ∃ M, t.length = 64 * M := ⟨t.length / 64, by omega⟩
  have hbe : encBs t = .sl .no (t.map fun b => .i .u8 b.toNat) := rfl
  refine PC.of <| ACalls.of_vc laid mixed Tryd.func57 rfl (by kernel_rfl) cf0 (by simp [Tryd.ntmps57]) fun imm0 w0 => ?_
  (simp (maxSteps := 2000000) (disch := first | omega | assumption) [i64_in, tnS, Int.toNat_add, Int.toNat_mul, List.getElem?_cons_zero, List.getElem_cons_zero])
  refine callV_pc (rwhole_ok l hl) rfl rfl (by simp) (by simp [argLe, TV.er, AV.er]) ?_
  rw [ht]
  (simp (maxSteps := 2000000) (disch := first | omega | assumption) [i64_in, tnS, Int.toNat_add, Int.toNat_mul, List.getElem?_cons_zero, List.getElem_cons_zero])
  refine AT.loopV (α := Nat) (fun k ver => St.of [(2, .loc 2 []), (3, .av (.slice 129) (.sl .no ((hashN t k).map encW))), (4, .av (.slice 5) (encBs t)), (5, .av (.int .i64) (.i .i64 (64 * k : Nat)))] [(2, (tyOf Tryd.prog 24, .agg (List.replicate 32 (.i .u8 0))))] ver [])
    (fun k => 64 * k ≤ t.length) (fun k => M - k) 0 ?_ ?_ ?_
  · refine Le.of ?_ ?_ ?_ ?_ ?_ <;> simp [leTV, locsIn, encDigs, encTraces, encWant, encTrace, encReads, encRead, encMades, encMade, hashN, h8, wi] <;> try omega
  · simp
  · rintro k ver hk KL hN hE
    have hkl := hashN_len t k
    refine vc_sound (cf := cf0) laid mixed _ _ _ (by kernel_rfl) ?_
    by_cases hlt : 64 * k < t.length
    · have e1 : List.drop (64*k) (List.take (64*k+64) t) = (t.drop (64*k)).take 64 := by rw [List.drop_take]; congr 1; omega
      have hlt' : 64 * (k : Int) < t.length := by omega
      (simp (maxSteps := 2000000) (disch := first | omega | assumption) [i64_in, tnS, Int.toNat_add, Int.toNat_mul, List.getElem?_cons_zero, List.getElem_cons_zero, hbe, hlt'])
      (repeat ((with_reducible refine And.intro ?_ ?_); (· first | omega | (show barB _ _ = true; kernel_rfl) | (show rdJ _ _ _ _ _ = true; kernel_rfl) | (show tailB _ _ _ = true; kernel_rfl) | (show sftB _ _ _ = true; kernel_rfl))))
      refine callV_pc (rblock_ok (hashN t k) ((t.drop (64*k)).take 64) hkl (by simp; omega)) rfl rfl (by simp) ?_ ?_
      · simp [argLe, TV.er, AV.er, AV.ers_eq, Function.comp_def, encBs, List.drop_take]
      · (simp (maxSteps := 2000000) (disch := first | omega | assumption) [i64_in, tnS, Int.toNat_add, Int.toNat_mul, List.getElem?_cons_zero, List.getElem_cons_zero])
        refine hN _ (k+1) ?_ (by first | omega | (simp; done) | (simp; omega)) (by first | omega | (simp; done) | (simp; omega)); refine Le.of ?_ ?_ ?_ ?_ ?_ <;> simp [leTV, locsIn, encDigs, encTraces, encWant, encTrace, encReads, encRead, encMades, encMade, hashN, hbe] <;> try omega
    · obtain rfl : k = M := by omega
      have hlt' : ¬ 64 * (k : Int) < t.length := by omega
      (simp (maxSteps := 2000000) (disch := first | omega | assumption) [i64_in, tnS, Int.toNat_add, Int.toNat_mul, List.getElem?_cons_zero, List.getElem_cons_zero, hbe, hlt'])
      refine hE _ _ (by simp) ?_
      (simp (maxSteps := 2000000) (disch := first | omega | assumption) [i64_in, tnS, Int.toNat_add, Int.toNat_mul, List.getElem?_cons_zero, List.getElem_cons_zero])
      have hdk : (padded l).length / 64 = k := by rw [ht, hM]; omega
      have hsha : sha l = digestW (hashN t k) := by rw [sha, hdk, ht]
      obtain ⟨D, hD⟩ : ∃ D, digestW (hashN t k) = D := ⟨_, rfl⟩
      have hDl : D.length = 32 := by rw [← hD]; exact digestW_len _
      refine AT.loopV (α := Nat) (fun j ver => St.of [(2, .loc 2 []), (3, .av (.slice 129) (.sl .no ((hashN t k).map encW))), (6, .loc 6 []), (7, .av (.int .i64) (.i .i64 j))] [(2, (tyOf Tryd.prog 24, .agg (List.replicate 32 (.i .u8 0)))), (6, (tyOf Tryd.prog 24, .agg ((D.take j ++ List.replicate (32 - j) 0).map encB)))] ver [])
        (fun j => j ≤ 32) (fun j => 32 - j) 0 ?_ ?_ ?_
      · refine Le.of ?_ ?_ ?_ ?_ ?_ <;> simp [leTV, locsIn, encDigs, encTraces, encWant, encTrace, encReads, encRead, encMades, encMade, encB_0] <;> try omega
      · simp
      · rintro j ver2 hj KL2 hN2 hE2
        refine vc_sound (cf := cf0) laid mixed _ _ _ (by kernel_rfl) ?_
        by_cases hjt : j < 32
        · obtain ⟨q, hq⟩ : ∃ q : Nat, j / 4 = q := ⟨_, rfl⟩
          obtain ⟨r, hr⟩ : ∃ r : Nat, j % 4 = r := ⟨_, rfl⟩
          have hq' : (j : Int).tdiv 4 = (q : Int) := by rw [Int.tdiv_eq_ediv_of_nonneg (by omega)]; omega
          have hr' : (j : Int).tmod 4 = (r : Int) := by rw [Int.tmod_eq_emod_of_nonneg (by omega)]; omega
          have hjt' : (j : Int) < 32 := by omega
          obtain ⟨x, hx⟩ : ∃ x, (hashN t k)[q]? = some x := ⟨_, List.getElem?_eq_getElem (by omega)⟩
          have hDj : D[j]? = some (x >>> UInt32.ofNat (24 - 8*r)).toUInt8 := by
            rw [← hD]
            simp [digestW, hjt, hq, hr, hx]
          have hset : ((D.take j ++ List.replicate (32 - j) 0).map encB).set j (encB (x >>> UInt32.ofNat (24 - 8*r)).toUInt8) = (D.take (j+1) ++ List.replicate (32 - (j+1)) 0).map encB := by
            rw [← List.map_set, List.take_add_one, hDj, show 32 - j = (32 - (j+1)) + 1 by omega, List.replicate_succ]
            simp [List.set_append_right, hDl, Nat.min_eq_left (Nat.le_of_lt hjt)]
          generalize hashN t k = H at *
          have hy := wlow (x >>> UInt32.ofNat (24 - 8*r))
          generalize (x >>> UInt32.ofNat (24 - 8*r)).toUInt8 = y at *
          have gx : ∀ g : q < H.length, H[q] = x := fun g => by rw [List.getElem?_eq_getElem g] at hx; simpa using hx
          (simp (maxSteps := 2000000) (disch := first | omega | assumption) [i64_in, tnS, Int.toNat_add, Int.toNat_mul, List.getElem?_cons_zero, List.getElem_cons_zero, hjt', hq', hr', gx, wshr, hy])
          (repeat ((with_reducible refine And.intro ?_ ?_); (· first | omega | (show barB _ _ = true; kernel_rfl) | (show rdJ _ _ _ _ _ = true; kernel_rfl) | (show tailB _ _ _ = true; kernel_rfl) | (show sftB _ _ _ = true; kernel_rfl))))
          simp only [List.map_append, List.map_take, List.map_replicate, encB_0] at hset
          refine hN2 _ (j+1) ?_ (by first | omega | (simp; done) | (simp; omega)) (by first | omega | (simp; done) | (simp; omega)); refine Le.of ?_ ?_ ?_ ?_ ?_ <;> simp [leTV, locsIn, encDigs, encTraces, encWant, encTrace, encReads, encRead, encMades, encMade, hset, encB_0] <;> try omega
        · obtain rfl : j = 32 := by omega
          (simp (maxSteps := 2000000) (disch := first | omega | assumption) [i64_in, tnS, Int.toNat_add, Int.toNat_mul, List.getElem?_cons_zero, List.getElem_cons_zero])
          refine hE2 _ _ (by simp) ?_
          (simp (maxSteps := 2000000) (disch := first | omega | assumption) [i64_in, tnS, Int.toNat_add, Int.toNat_mul, List.getElem?_cons_zero, List.getElem_cons_zero, Tryd.f57])
          rw [hsha, hD, encD_eq, List.take_of_length_le (by simp [hDl])]
          simp [AV.ers_eq, Function.comp_def, AV.er]
end Go.Proofs.YtmkpbigaafemnaaDoor
