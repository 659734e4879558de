/- The reference's May, Dir, Under. No condition beyond each theorem's own. -/
import Derived.Test.YthdgnfnalimcnaaGreatDoorP10
set_option linter.unusedSimpArgs false
set_option linter.unusedVariables false
set_option linter.unusedSectionVars false
set_option maxRecDepth 100000
/-! The reference's May, Dir, Under. -/
namespace Go.Proofs.YthdgnfnalimcnaaGreatDoor
open Go Go.Ab
open Classical
variable [Sel]
attribute [local simp] vc_skip hiLen zN capV cpyD appendZ clearV delV mdel copyVT extV ovV vc_label vc_region vc_drawn vc_seq vc_cond vc_block vc_exit vc_goto vc_ret vc_loop vc_scope vcOps_nil vcOps_cons vcPs_nil vcPs_cons vcDs_nil vcDs_cons vcD impB mkd wkOf isCallV rdOK_eq rdO_nil rdO_tmp rdO_const rdO_global rdO_func rdL_nil rdL_cons rdT_av rdT_cst rdT_pel rdT_tup rdT_junk rdT_loc St.app Op.operands Call.operands vcG_eq iteP wkOf isCallV vcOp putK_eq pureV ev co coC asI asB asS isNil nkOf derefV fieldAddrV indexAddrV indexV lowV boundsV sliceV pickV_eq unV convV convB bytesOf capOf lenV minV maxV withSrc slice3V lookupV mapOf mfind mput scalT mapUpdV makeSliceV appendM appendN growM growOK zM binI isConst binV St.put upd KSeq_n KSeq_x KSeq_g KSeq_r KBlock_n KBlock_x KBlock_g KBlock_r KScope_n KScope_x KScope_r KRet_n KRet_r resL retTV TV.er AV.er AV.ers AV.erk AV.erks Tok.k Heap.er_nil Heap.er_cons Heap.er_app HObj.er_var HObj.er_map Heap.keys_nil Heap.keys_cons Heap.keys_app hget hset subT getP setP_nil setP_one setP_two setPo_some storeV buildV buildL partsOf capTV argOK entry St.of lk_nil lk_cons leLoc siterOf_siter gB_undef gB_av gB_cst undef isNE_tmp isSlT nslD nslDs mslOf mstrV copyV copyK unsV ustrV hdel dataV sameP mtbD isSlN slNilV vcDo_nil vcDo_cons isLt sft sftD softV rangeMV entryMV cmpV

/-! ### plain: texts and their parts -/
def joinS : List (List UInt8) → List UInt8
  | [] => []
  | [x] => x
  | x :: y :: r => x ++ 47 :: joinS (y :: r)
theorem joinS_app : ∀ (p q : List (List UInt8)), p ≠ [] → q ≠ [] → joinS (p ++ q) = joinS p ++ 47 :: joinS q
  | [], q, h, _ => absurd rfl h
  | [x], [], _, h => absurd rfl h
  | [x], y :: r, _, _ => rfl
  | x :: y :: r, q, _, hq => by
    have := joinS_app (y :: r) q (by simp) hq
    show x ++ 47 :: joinS (y :: r ++ q) = _
    rw [this]; simp [joinS]
theorem joinS_split : ∀ l, joinS (splitB 47 l) = l
  | [] => rfl
  | b :: l => by
    have ih := joinS_split l
    unfold splitB
    split
    · rename_i hb; subst hb
      cases hs : splitB 47 l with
      | nil => exact absurd hs (splitB_ne _ _)
      | cons x r => rw [hs] at ih; simp [joinS, ih]
    · cases hs : splitB 47 l with
      | nil => exact absurd hs (splitB_ne _ _)
      | cons x r =>
        rw [hs] at ih
        cases r with
        | nil => simp only [joinS] at ih ⊢; rw [ih]
        | cons z q => simp only [joinS] at ih ⊢; rw [← ih]; rfl
theorem splitB_no47 : ∀ (l x : List UInt8), x ∈ splitB 47 l → (47 : UInt8) ∉ x
  | [], x, h => by simp [splitB] at h; simp [h]
  | b :: l, x, h => by
    unfold splitB at h
    split at h
    · rcases List.mem_cons.1 h with rfl | h
      · simp
      · exact splitB_no47 l x h
    · rename_i hb
      cases hs : splitB 47 l with
      | nil => exact absurd hs (splitB_ne _ _)
      | cons y r =>
        rw [hs] at h
        rcases List.mem_cons.1 h with rfl | h
        · have := splitB_no47 l y (by rw [hs]; simp)
          simp [this, Ne.symm hb]
        · exact splitB_no47 l x (by rw [hs]; simp [h])
theorem splitB_one : ∀ (x : List UInt8), (47 : UInt8) ∉ x → splitB 47 x = [x]
  | [], _ => rfl
  | b :: l, h => by
    simp only [List.mem_cons, not_or] at h
    rw [splitB, if_neg (fun e => h.1 e.symm), splitB_one l h.2]
theorem splitB_app : ∀ (a b : List UInt8), splitB 47 (a ++ 47 :: b) = splitB 47 a ++ splitB 47 b
  | [], b => by simp [splitB]
  | x :: a, b => by
    have ih := splitB_app a b
    simp only [List.cons_append, splitB]
    split
    · rw [ih]; simp
    · rw [ih]
      cases hs : splitB 47 a with
      | nil => exact absurd hs (splitB_ne _ _)
      | cons y r => simp
theorem splitB_join : ∀ (p : List (List UInt8)), p ≠ [] → (∀ x ∈ p, (47 : UInt8) ∉ x) → splitB 47 (joinS p) = p
  | [], h, _ => absurd rfl h
  | [x], _, h => splitB_one x (h x (by simp))
  | x :: y :: r, _, h => by
    show splitB 47 (x ++ 47 :: joinS (y :: r)) = _
    rw [splitB_app, splitB_one x (h x (by simp)), splitB_join (y :: r) (by simp) (fun z hz => h z (by simp [hz]))]
    rfl
def dirV (l : List UInt8) : List UInt8 := if mayV l = true ∧ (splitB 47 l).length ≠ 1 then joinS (splitB 47 l).dropLast else []
theorem may_iff (l : List UInt8) : mayV l = true ↔ (splitB 47 l).length ≤ 16 ∧ ∀ x ∈ splitB 47 l, partV x = true := by simp [mayV]
/-- what lies above a path -/
theorem dir_spec {l : List UInt8} (hm : mayV l = true) (h1 : (splitB 47 l).length ≠ 1) : ∃ x, l = dirV l ++ 47 :: x ∧ (47 : UInt8) ∉ x ∧ mayV (dirV l) = true ∧ dirV l ≠ [] := by
  have hne := splitB_ne 47 l
  have hdl : (splitB 47 l).dropLast ≠ [] := by
    intro h
    have := congrArg List.length h
    simp at this
    have h0 : 0 < (splitB 47 l).length := List.length_pos_iff.2 hne
    omega
  have hd : dirV l = joinS (splitB 47 l).dropLast := by simp [dirV, hm, h1]
  have hmem : ∀ x ∈ (splitB 47 l).dropLast, x ∈ splitB 47 l := fun x hx => (List.dropLast_sublist _).subset hx
  have hsp : splitB 47 (dirV l) = (splitB 47 l).dropLast := by
    rw [hd]; exact splitB_join _ hdl fun x hx => splitB_no47 l x (hmem x hx)
  rw [may_iff] at hm
  refine ⟨(splitB 47 l).getLast hne, ?_, splitB_no47 l _ (List.getLast_mem hne), ?_, ?_⟩
  · rw [hd]
    have := joinS_app (splitB 47 l).dropLast [(splitB 47 l).getLast hne] hdl (by simp)
    rw [List.dropLast_concat_getLast hne, joinS_split] at this
    exact this
  · rw [may_iff, hsp]
    exact ⟨by simp; omega, fun x hx => hm.2 x (hmem x hx)⟩
  · intro h0
    rw [h0] at hsp
    simp only [splitB] at hsp
    have := hm.2 [] (hmem [] (by rw [← hsp]; simp))
    simp [partV] at this
theorem pre_step {u x d : List UInt8} (hx : (47 : UInt8) ∉ x) : hasPre (u ++ 47 :: x) (d ++ [47]) = (decide (u = d) || hasPre u (d ++ [47])) := by
  rw [Bool.eq_iff_iff]
  simp only [hasPre, decide_eq_true_eq, Bool.or_eq_true, List.length_append, List.length_singleton]
  have key : ∀ l : List UInt8, l.take (d.length + 1) = d ++ [47] ↔ l.take d.length = d ∧ l[d.length]? = some 47 := by
    intro l
    constructor
    · intro h
      have hlen := congrArg List.length h
      simp at hlen
      constructor
      · have := congrArg (List.take d.length) h
        rw [List.take_take, List.take_left, Nat.min_eq_left (by omega)] at this
        exact this
      · have := congrArg (·[d.length]?) h
        simpa [List.getElem?_take] using this
    · rintro ⟨h1, h2⟩
      have h3 := (List.getElem?_eq_some_iff.1 h2)
      rw [List.take_succ_eq_append_getElem h3.1, h1, h3.2]
  rw [key, key]
  constructor
  · rintro ⟨h1, h2⟩
    rcases Nat.lt_trichotomy d.length u.length with h | h | h
    · right
      rw [List.take_append_of_le_length (by omega)] at h1
      rw [List.getElem?_append_left h] at h2
      exact ⟨h1, h2⟩
    · left
      rw [h, List.take_left] at h1
      exact h1
    · exfalso
      rw [List.getElem?_append_right (by omega)] at h2
      obtain ⟨j, hj⟩ : ∃ j, d.length - u.length = j + 1 := ⟨d.length - u.length - 1, by omega⟩
      rw [hj, List.getElem?_cons_succ] at h2
      exact hx (List.mem_of_getElem? h2)
  · rintro (rfl | ⟨h1, h2⟩)
    · simp
    · have h3 := (List.getElem?_eq_some_iff.1 h2).1
      rw [List.take_append_of_le_length (by omega), List.getElem?_append_left h3]
      exact ⟨h1, h2⟩
theorem pre_may {l d : List UInt8} (hm : mayV l = true) (hp : hasPre l (d ++ [47]) = true) : mayV d = true := by
  simp only [hasPre, decide_eq_true_eq] at hp
  have hl : l = d ++ 47 :: l.drop (d ++ [47]).length := by
    have := (List.take_append_drop (d ++ [47]).length l).symm
    rw [hp] at this
    simpa using this
  rw [may_iff] at hm ⊢
  rw [hl, splitB_app] at hm
  refine ⟨by have := hm.1; simp at this; omega, fun x hx => hm.2 x (by simp [hx])⟩
theorem underV_step {l d : List UInt8} (hm : mayV l = true) (hd : d ≠ []) : underV l d = (decide (dirV l ≠ []) && (decide (dirV l = d) || underV (dirV l) d)) := by
  have hu : ∀ l, mayV l = true → underV l d = hasPre l (d ++ [47]) := by
    intro l hm
    simp only [underV, hm, hd, decide_false, Bool.true_and, Bool.false_or]
    cases hp : hasPre l (d ++ [47]) with
    | false => simp
    | true => simp [pre_may hm hp]
  rw [hu l hm]
  by_cases h1 : (splitB 47 l).length = 1
  · have hd0 : dirV l = [] := by simp [dirV, h1]
    rw [hd0]
    simp only [ne_eq, not_true_eq_false, decide_false, Bool.false_and]
    have h47 : (47 : UInt8) ∉ l := by
      cases hs : splitB 47 l with
      | nil => exact absurd hs (splitB_ne _ _)
      | cons x r =>
        rw [hs] at h1
        obtain rfl : r = [] := List.eq_nil_of_length_eq_zero (by simpa using h1)
        have h3 := joinS_split l
        rw [hs] at h3
        rw [← h3]
        exact splitB_no47 l x (by rw [hs]; simp)
    cases hp : hasPre l (d ++ [47]) with
    | false => rfl
    | true =>
      exfalso
      simp only [hasPre, decide_eq_true_eq] at hp
      exact h47 (List.mem_of_mem_take (by rw [hp]; simp))
  · obtain ⟨x, hl, hx, hm2, hne⟩ := dir_spec hm h1
    rw [hu _ hm2]
    simp only [hne, ne_eq, not_false_eq_true, decide_true, Bool.true_and]
    conv => lhs; rw [hl]
    exact pre_step hx
theorem dirV_lt {l : List UInt8} (hne : dirV l ≠ []) : (dirV l).length < l.length := by
  by_cases hm : mayV l = true
  · by_cases h1 : (splitB 47 l).length = 1
    · exact absurd (by simp [dirV, h1]) hne
    · obtain ⟨x, hl, _⟩ := dir_spec hm h1
      have := congrArg List.length hl
      simp at this; omega
  · exact absurd (by simp [dirV, hm]) hne
end Go.Proofs.YthdgnfnalimcnaaGreatDoor
