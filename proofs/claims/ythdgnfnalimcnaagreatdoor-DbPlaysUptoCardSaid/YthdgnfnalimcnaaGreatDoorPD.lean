/- What a reading of the arguments tells: traces, reads. Go's own tables as the row lists them. No condition beyond each theorem's own. -/
import Derived.Test.YthdgnfnalimcnaaGreatDoorB0
import Derived.Test.YthdgnfnalimcnaaGreatDoorAbXToY
set_option linter.unusedSimpArgs false
set_option linter.unusedVariables false
set_option linter.unusedSectionVars false
set_option maxRecDepth 100000
/-! What a reading of the arguments tells: traces, reads. Go's own tables as the row lists them. -/
namespace Go.Proofs.YthdgnfnalimcnaaGreatDoor
open Go Go.Ab
open Classical
variable [Sel]
attribute [local simp] vc_skip hiLen zN capV cpyD appendZ clearV delV mdel copyVT extV ovV vc_label vc_region vc_drawn vc_seq vc_cond vc_block vc_exit vc_goto vc_ret vc_loop vc_scope vcOps_nil vcOps_cons vcPs_nil vcPs_cons vcDs_nil vcDs_cons vcD impB mkd wkOf isCallV rdOK_eq rdO_nil rdO_tmp rdO_const rdO_global rdO_func rdL_nil rdL_cons rdT_av rdT_cst rdT_pel rdT_tup rdT_junk rdT_loc St.app Op.operands Call.operands vcG_eq iteP wkOf isCallV vcOp putK_eq pureV ev co coC asI asB asS isNil nkOf derefV fieldAddrV indexAddrV indexV lowV boundsV sliceV pickV_eq unV convV convB bytesOf capOf lenV minV maxV withSrc slice3V lookupV mapOf mfind mput scalT mapUpdV makeSliceV appendM appendN growM growOK zM binI isConst binV St.put upd KSeq_n KSeq_x KSeq_g KSeq_r KBlock_n KBlock_x KBlock_g KBlock_r KScope_n KScope_x KScope_r KRet_n KRet_r resL retTV TV.er AV.er AV.ers AV.erk AV.erks Tok.k Heap.er_nil Heap.er_cons Heap.er_app HObj.er_var HObj.er_map Heap.keys_nil Heap.keys_cons Heap.keys_app hget hset subT getP setP_nil setP_one setP_two setPo_some storeV buildV buildL partsOf capTV argOK entry St.of lk_nil lk_cons leLoc siterOf_siter gB_undef gB_av gB_cst undef isNE_tmp isSlT nslD nslDs mslOf mstrV copyV copyK unsV ustrV hdel dataV sameP mtbD isSlN slNilV vcDo_nil vcDo_cons isLt sft sftD softV rangeMV entryMV cmpV

theorem list_dec {α : Type} {f : α → AV} {q : AV → Prop} {r : α → Prop} {xs : List AV} (h : ∀ y ∈ xs, q y) (hd : ∀ y, q y → ∃ a, y = f a ∧ r a) : ∃ l : List α, xs = l.map f ∧ ∀ a ∈ l, r a := by
  induction xs with
  | nil => exact ⟨[], rfl, by simp⟩
  | cons y ys ih =>
    obtain ⟨a, ha, hr⟩ := hd y (h y (by simp))
    obtain ⟨l, hl, hl2⟩ := ih fun z hz => h z (by simp [hz])
    exact ⟨a :: l, by simp [ha, hl], by simpa using ⟨hr, hl2⟩⟩

theorem decDig {n : Nat} {x : AV} (h : WTy Tryz.prog (n + 2) 30 x) : ∃ d : Dig, x = encD d ∧ d.length = 32 := by
  simp only [WTy, ty30, ty5] at h
  obtain ⟨xs, rfl, hlen, h⟩ := h
  obtain ⟨l, hl, _⟩ := list_dec (α := UInt8) (f := fun b => AV.i .u8 b.toNat) (r := fun _ => True) h (by
    rintro y ⟨m, rfl, hm⟩
    have hx : 0 ≤ m ∧ m ≤ 255 := by simpa [Lit.wf, IntKind.min, IntKind.max, IntKind.signed, IntKind.bits] using hm
    refine ⟨UInt8.ofNat m.toNat, ?_, trivial⟩
    simp only [AV.i.injEq, true_and]
    have : (UInt8.ofNat m.toNat).toNat = m.toNat := by simp; omega
    rw [this]; omega)
  subst hl
  exact ⟨l, rfl, by simpa using hlen⟩
def okR (r : Read) : Prop := r.sum.length = 32 ∧ r.path.length ≤ maxLen
def okM (r : Made) : Prop := r.sum.length = 32 ∧ r.path.length ≤ maxLen
theorem decRead {n : Nat} {x : AV} (h : WTy Tryz.prog (n + 3) 59 x) : ∃ r : Read, x = encRead r ∧ okR r := by
  rw [WTy] at h
  simp only [ty59] at h
  obtain ⟨xs, rfl, hlen, h⟩ := h
  match xs, hlen with
  | [a, b, c], _ =>
    have h1 := h 0 9 a rfl rfl
    have h2 := h 1 4 b rfl rfl
    have h3 := h 2 30 c rfl rfl
    simp only [WTy, ty9] at h1
    simp only [WTy, ty4] at h2
    obtain ⟨s, rfl, hs⟩ := h1
    obtain ⟨q, rfl⟩ := h2
    obtain ⟨d, rfl, hd⟩ := decDig h3
    exact ⟨⟨s, q, d⟩, rfl, hd, hs⟩
theorem decMade {n : Nat} {x : AV} (h : WTy Tryz.prog (n + 3) 73 x) : ∃ r : Made, x = encMade r ∧ okM r := by
  rw [WTy] at h
  simp only [ty73] at h
  obtain ⟨xs, rfl, hlen, h⟩ := h
  match xs, hlen with
  | [a, c], _ =>
    have h1 := h 0 9 a rfl rfl
    have h3 := h 1 30 c rfl rfl
    simp only [WTy, ty9] at h1
    obtain ⟨s, rfl, hs⟩ := h1
    obtain ⟨d, rfl, hd⟩ := decDig h3
    exact ⟨⟨s, d⟩, rfl, hd, hs⟩
theorem decReads {n : Nat} {x : AV} (h : WTy Tryz.prog (n + 4) 31 x) : ∃ l : List Read, x = encReads l ∧ l.length ≤ maxLen ∧ ∀ r ∈ l, okR r := by
  rw [WTy] at h
  simp only [ty31] at h
  obtain ⟨xs, rfl, hlen, h⟩ := h
  obtain ⟨l, rfl, h2⟩ := list_dec h fun y hy => decRead hy
  exact ⟨l, rfl, by simpa using hlen, h2⟩
theorem decMades {n : Nat} {x : AV} (h : WTy Tryz.prog (n + 4) 32 x) : ∃ l : List Made, x = encMades l ∧ l.length ≤ maxLen ∧ ∀ r ∈ l, okM r := by
  rw [WTy] at h
  simp only [ty32] at h
  obtain ⟨xs, rfl, hlen, h⟩ := h
  obtain ⟨l, rfl, h2⟩ := list_dec h fun y hy => decMade hy
  exact ⟨l, rfl, by simpa using hlen, h2⟩
def okTrace (t : Trace) : Prop := t.key.length = 32 ∧ (t.reads.length ≤ maxLen ∧ ∀ r ∈ t.reads, okR r) ∧ t.outs.length ≤ maxLen ∧ ∀ r ∈ t.outs, okM r
theorem decTrace {n : Nat} {x : AV} (h : WTy Tryz.prog (n + 5) 34 x) : ∃ t : Trace, x = encTrace t ∧ okTrace t := by
  rw [WTy] at h
  simp only [ty34] at h
  obtain ⟨xs, rfl, hlen, h⟩ := h
  match xs, hlen with
  | [a, b, c], _ =>
    obtain ⟨k, rfl, h1⟩ := decDig (h 0 30 a rfl rfl)
    obtain ⟨r, rfl, h2⟩ := decReads (h 1 31 b rfl rfl)
    obtain ⟨o, rfl, h3⟩ := decMades (h 2 32 c rfl rfl)
    exact ⟨⟨k, r, o⟩, rfl, h1, h2, h3⟩
theorem max63 : maxLen ≤ 9223372036854775807 := by decide
end Go.Proofs.YthdgnfnalimcnaaGreatDoor
