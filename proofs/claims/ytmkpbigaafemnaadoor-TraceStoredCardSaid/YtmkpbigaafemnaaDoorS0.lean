/- Words of 32 bits: what the model's integer operations are on them. No condition beyond each theorem's own. -/
import Derived.Test.YtmkpbigaafemnaaDoorB0
set_option linter.unusedSimpArgs false
set_option linter.unusedVariables false
set_option linter.unusedSectionVars false
set_option maxRecDepth 100000
/-! Words of 32 bits: what the model's integer operations are on them. -/
namespace Go.Proofs.YtmkpbigaafemnaaDoor
open Go Go.Ab
open Classical
attribute [local simp] vc_skip vc_label vc_region vc_drawn vc_seq vc_cond vc_block vc_exit vc_goto vc_ret vc_loop vc_scope vcOps_nil vcOps_cons vcPs_nil vcPs_cons vcDs_nil vcDs_cons vcD impB mkd wkOf isCallV rdOK_eq rdO_nil rdO_tmp rdO_const rdO_global rdO_func rdL_nil rdL_cons rdT_av rdT_cst rdT_pel rdT_tup rdT_junk rdT_loc St.app Op.operands Call.operands vcG_eq iteP wkOf isCallV vcOp putK_eq pureV ev co coC asI asB asS isNil nkOf derefV fieldAddrV indexAddrV indexV lowV boundsV sliceV pickV_eq unV convV convB bytesOf capOf lenV minV withSrc slice3V lookupV mapOf mfind mput scalT mapUpdV makeSliceV appendM appendN growM growOK zM binI isConst binV St.put upd KSeq_n KSeq_x KSeq_g KSeq_r KBlock_n KBlock_x KBlock_g KBlock_r KScope_n KScope_x KScope_r KRet_n KRet_r resL retTV TV.er AV.er AV.ers AV.erk AV.erks Tok.k Heap.er_nil Heap.er_cons Heap.er_app HObj.er_var HObj.er_map Heap.keys_nil Heap.keys_cons Heap.keys_app hget hset subT getP setP_nil setP_one setP_two setPo_some storeV buildV buildL partsOf capTV argOK entry St.of lk_nil lk_cons leLoc siterOf_siter gB_undef gB_av gB_cst undef isNE_tmp isSlT nslD nslDs mslOf mstrV copyV copyK unsV ustrV hdel dataV sameP mtbD isSlN slNilV vcDo_nil vcDo_cons isLt sft sftD softV

theorem tnS {a b : Int} (ha : 0 ≤ a) (hb : 0 ≤ b) : (a - b).toNat = a.toNat - b.toNat := by omega
def wi (x : UInt32) : Int := x.toNat
abbrev encW (w : UInt32) : AV := .i .u32 (wi w)
theorem w_wrap {n : Nat} (h : n < 4294967296) : IntKind.u32.wrap (n : Int) = n := by
  simp [IntKind.wrap, IntKind.signed, IntKind.bits]; omega
theorem wi_bv (x : UInt32) : BitVec.ofInt IntKind.u32.bits (wi x) = x.toBitVec := by
  apply BitVec.eq_of_toNat_eq
  show (BitVec.ofInt 32 (x.toNat : Int)).toNat = _
  simp
  rfl
theorem wadd (x y : UInt32) : IntKind.u32.wrap (wi x + wi y) = wi (x + y) := by
  have := x.toNat_lt; have := y.toNat_lt
  simp [wi, IntKind.wrap, IntKind.signed, IntKind.bits, UInt32.toNat_add]
theorem wor (x y : UInt32) : IntKind.u32.wrap ((BitVec.ofInt IntKind.u32.bits (wi x) ||| BitVec.ofInt IntKind.u32.bits (wi y)).toNat : Int) = wi (x ||| y) := by
  rw [wi_bv, wi_bv, w_wrap (BitVec.isLt _)]; rfl
theorem wxor (x y : UInt32) : IntKind.u32.wrap ((BitVec.ofInt IntKind.u32.bits (wi x) ^^^ BitVec.ofInt IntKind.u32.bits (wi y)).toNat : Int) = wi (x ^^^ y) := by
  rw [wi_bv, wi_bv, w_wrap (BitVec.isLt _)]; rfl
theorem wand (x y : UInt32) : IntKind.u32.wrap ((BitVec.ofInt IntKind.u32.bits (wi x) &&& BitVec.ofInt IntKind.u32.bits (wi y)).toNat : Int) = wi (x &&& y) := by
  rw [wi_bv, wi_bv, w_wrap (BitVec.isLt _)]; rfl
theorem wnot (x : UInt32) : IntKind.u32.wrap ((BitVec.ofInt IntKind.u32.bits (if IntKind.u32.signed then -1 else IntKind.u32.max) ^^^ BitVec.ofInt IntKind.u32.bits (wi x)).toNat : Int) = wi (~~~ x) := by
  rw [wi_bv, w_wrap (BitVec.isLt _)]
  unfold wi
  show ((BitVec.ofInt 32 4294967295 ^^^ x.toBitVec).toNat : Int) = ((~~~ x.toBitVec).toNat : Int)
  rw [show BitVec.ofInt 32 4294967295 = BitVec.allOnes 32 from by decide, BitVec.allOnes_xor]
theorem wshrN (x : UInt32) {n : Nat} (h : n < 32) : (wi x).fdiv (2 ^ n) = wi (x >>> UInt32.ofNat n) := by
  have e : (x >>> UInt32.ofNat n).toNat = x.toNat / 2 ^ n := by
    rw [UInt32.toNat_shiftRight, UInt32.toNat_ofNat_of_lt' (by rw [UInt32.size]; omega), Nat.mod_eq_of_lt (by omega), Nat.shiftRight_eq_div_pow]
  unfold wi
  rw [e, Int.fdiv_eq_ediv_of_nonneg _ (Int.le_of_lt (Int.pow_pos (by omega)))]
  norm_cast
theorem wshlN (x : UInt32) {n : Nat} (h : n < 32) : IntKind.u32.wrap (wi x * 2 ^ n) = wi (x <<< UInt32.ofNat n) := by
  have e : (x <<< UInt32.ofNat n).toNat = (x.toNat * 2 ^ n) % 4294967296 := by
    rw [UInt32.toNat_shiftLeft, UInt32.toNat_ofNat_of_lt' (by rw [UInt32.size]; omega), Nat.mod_eq_of_lt (by omega : n < 32), Nat.shiftLeft_eq]
  unfold wi
  rw [e]
  simp [IntKind.wrap, IntKind.signed, IntKind.bits]
theorem bits32 {n : Nat} (h : n < 32) : min n IntKind.u32.bits = n := by simp [IntKind.bits]; omega
theorem wshr (x : UInt32) {n : Nat} (h : n < 32) : (wi x).fdiv (2 ^ (min n IntKind.u32.bits)) = wi (x >>> UInt32.ofNat n) := by rw [bits32 h, wshrN x h]
theorem wshl (x : UInt32) {n : Nat} (h : n < 32) : IntKind.u32.wrap (wi x * 2 ^ (min n IntKind.u32.bits)) = wi (x <<< UInt32.ofNat n) := by rw [bits32 h, wshlN x h]
theorem wbyte (b : UInt8) : IntKind.u32.wrap (b.toNat : Int) = wi b.toUInt32 := by
  have := b.toNat_lt
  rw [w_wrap (by omega)]; simp [wi]
theorem wlow (x : UInt32) : IntKind.u8.wrap (wi x) = (x.toUInt8.toNat : Int) := by
  simp [wi, IntKind.wrap, IntKind.signed, IntKind.bits]
theorem wi_const (n : Nat) (h : n < 4294967296) : (n : Int) = wi (UInt32.ofNat n) := by
  unfold wi; rw [UInt32.toNat_ofNat_of_lt' (by rw [UInt32.size]; omega)]

def rotr (x : UInt32) (n : Nat) : UInt32 := (x >>> UInt32.ofNat n) ||| (x <<< UInt32.ofNat (32 - n))
theorem u64_small {n : Nat} (h : n < 4294967296) : IntKind.u64.wrap (n : Int) = n := by
  simp [IntKind.wrap, IntKind.signed, IntKind.bits]; omega
theorem and31 {n : Nat} (h : n < 32) : (BitVec.ofInt 64 (n : Int) &&& 31#64).toNat = n := by
  have e : (BitVec.ofInt 64 (n : Int)).toNat = n := by simp; omega
  rw [BitVec.toNat_and, e]
  have := Nat.and_two_pow_sub_one_eq_mod n 5
  simp only [Nat.reducePow, Nat.reduceSub] at this
  show n &&& 31 = n
  rw [this]; omega
def wordOf (a b c d : UInt8) : UInt32 := ((a.toUInt32 <<< 24) ||| (b.toUInt32 <<< 16) ||| (c.toUInt32 <<< 8)) ||| d.toUInt32
theorem wordOf_steps (a b c d : UInt8) : ((((((0 : UInt32) <<< 8 ||| a.toUInt32) <<< 8) ||| b.toUInt32) <<< 8 ||| c.toUInt32) <<< 8) ||| d.toUInt32 = wordOf a b c d := by
  unfold wordOf
  apply UInt32.toBitVec_inj.1
  ext i hi
  simp
  grind
def k64 : List UInt32 := [0x428a2f98, 0x71374491, 0xb5c0fbcf, 0xe9b5dba5, 0x3956c25b, 0x59f111f1, 0x923f82a4, 0xab1c5ed5, 0xd807aa98, 0x12835b01, 0x243185be,
  0x550c7dc3, 0x72be5d74, 0x80deb1fe, 0x9bdc06a7, 0xc19bf174, 0xe49b69c1, 0xefbe4786, 0x0fc19dc6, 0x240ca1cc, 0x2de92c6f, 0x4a7484aa,
  0x5cb0a9dc, 0x76f988da, 0x983e5152, 0xa831c66d, 0xb00327c8, 0xbf597fc7, 0xc6e00bf3, 0xd5a79147, 0x06ca6351, 0x14292967, 0x27b70a85,
  0x2e1b2138, 0x4d2c6dfc, 0x53380d13, 0x650a7354, 0x766a0abb, 0x81c2c92e, 0x92722c85, 0xa2bfe8a1, 0xa81a664b, 0xc24b8b70, 0xc76c51a3,
  0xd192e819, 0xd6990624, 0xf40e3585, 0x106aa070, 0x19a4c116, 0x1e376c08, 0x2748774c, 0x34b0bcb5, 0x391c0cb3, 0x4ed8aa4a, 0x5b9cca4f,
  0x682e6ff3, 0x748f82ee, 0x78a5636f, 0x84c87814, 0x8cc70208, 0x90befffa, 0xa4506ceb, 0xbef9a3f7, 0xc67178f2]
def h8 : List UInt32 := [0x6a09e667, 0xbb67ae85, 0x3c6ef372, 0xa54ff53a, 0x510e527f, 0x9b05688c, 0x1f83d9ab, 0x5be0cd19]
end Go.Proofs.YtmkpbigaafemnaaDoor
