/- What a key's row is, behind many: the latest ones, each once. No condition beyond each theorem's own. -/
import Derived.Test.YthdgnfnalimcnaaGreatDoorD7
set_option linter.unusedSimpArgs false
set_option linter.unusedVariables false
set_option linter.unusedSectionVars false
set_option maxRecDepth 100000
/-! What a key's row is, behind many: the latest ones, each once. -/
namespace Go.Proofs.YthdgnfnalimcnaaGreatDoor
open Go Go.Ab
open Classical
variable [Sel]
attribute [local simp] vc_skip hiLen zN capV cpyD appendZ clearV delV mdel copyVT extV ovV vc_label vc_region vc_drawn vc_seq vc_cond vc_block vc_exit vc_goto vc_ret vc_loop vc_scope vcOps_nil vcOps_cons vcPs_nil vcPs_cons vcDs_nil vcDs_cons vcD impB mkd wkOf isCallV rdOK_eq rdO_nil rdO_tmp rdO_const rdO_global rdO_func rdL_nil rdL_cons rdT_av rdT_cst rdT_pel rdT_tup rdT_junk rdT_loc St.app Op.operands Call.operands vcG_eq iteP wkOf isCallV vcOp putK_eq pureV ev co coC asI asB asS isNil nkOf derefV fieldAddrV indexAddrV indexV lowV boundsV sliceV pickV_eq unV convV convB bytesOf capOf lenV minV maxV withSrc slice3V lookupV mapOf mfind mput scalT mapUpdV makeSliceV appendM appendN growM growOK zM binI isConst binV St.put upd KSeq_n KSeq_x KSeq_g KSeq_r KBlock_n KBlock_x KBlock_g KBlock_r KScope_n KScope_x KScope_r KRet_n KRet_r resL retTV TV.er AV.er AV.ers AV.erk AV.erks Tok.k Heap.er_nil Heap.er_cons Heap.er_app HObj.er_var HObj.er_map Heap.keys_nil Heap.keys_cons Heap.keys_app hget hset subT getP setP_nil setP_one setP_two setPo_some storeV buildV buildL partsOf capTV argOK entry St.of lk_nil lk_cons leLoc siterOf_siter gB_undef gB_av gB_cst undef isNE_tmp isSlT nslD nslDs mslOf mstrV copyV copyK unsV ustrV hdel dataV sameP mtbD isSlN slNilV vcDo_nil vcDo_cons isLt sft sftD softV rangeMV entryMV cmpV

theorem kp_eq (x : Trace) (ts : List Trace) : kp x ts = ts.filter (fun y => decide (y ≠ x)) := by
  unfold kp
  congr 1
  funext y
  by_cases h : y = x
  · subst h
    have : sameV y y = true := sameV_iff.2 rfl
    simp [this]
  · have : sameV y x = false := by
      cases hs : sameV y x
      · rfl
      · exact absurd (sameV_iff.1 hs) h
    simp [this, h]
theorem getD_put (k k' : Dig) (v : List Trace) : ∀ L : DbL, getD (putD k v L) k' = if k' = k then v else getD L k'
  | [] => by
    by_cases h : k' = k
    · simp [putD, getD, h]
    · simp [putD, getD, h, Ne.symm h]
  | (q, u) :: r => by
    have ih := getD_put k k' v r
    by_cases hq : q = k
    · subst hq
      by_cases h : k' = q
      · simp [putD, getD, h]
      · have h' : ¬ q = k' := fun e => h e.symm
        simp [putD, getD, h, h']
    · simp only [putD, hq, if_false]
      by_cases h2 : q = k'
      · have h3 : ¬ k' = k := fun e => hq (h2.trans e)
        simp [getD, h2, h3]
      · simp only [getD, List.find?_cons, h2, decide_false] at ih ⊢
        exact ih
noncomputable def stepK (mo : Nat) (k : Dig) (row : List Trace) (x : Trace) : List Trace := if x.key = k ∧ checkV x = 0 then addL mo x row else row
theorem getD_add (mo : Nat) (L : DbL) (x : Trace) (k : Dig) : getD (addD mo L x) k = stepK mo k (getD L k) x := by
  unfold addD stepK
  by_cases hc : checkV x = 0
  · rw [if_pos hc, getD_put]
    by_cases h : k = x.key
    · subst h; simp [hc]
    · have h' : ¬ x.key = k := fun e => h e.symm
      simp [h, h']
  · simp [hc]
noncomputable def step3 (mo : Nat) (o : Trace) (L : DbL) (x : Trace) : DbL := addD mo (if x.key = o.key then L else addD mo L x) o
theorem getD_step3 {mo : Nat} {o : Trace} {k : Dig} (h : ¬ o.key = k) (L : DbL) (x : Trace) : getD (step3 mo o L x) k = stepK mo k (getD L k) x := by
  unfold step3
  rw [getD_add]
  have h1 : ∀ R, stepK mo k R o = R := fun R => by simp [stepK, h]
  rw [h1]
  split
  · rename_i he
    have : ¬ x.key = k := fun e => h (he ▸ e)
    simp [stepK, this]
  · exact getD_add mo L x k
theorem getD_fold3 {mo : Nat} {o : Trace} {k : Dig} (h : ¬ o.key = k) : ∀ (l : List Trace) (L : DbL), getD (l.foldl (step3 mo o) L) k = l.foldl (stepK mo k) (getD L k)
  | [], L => rfl
  | x :: r, L => by rw [List.foldl_cons, getD_fold3 h r, getD_step3 h]; rfl
/-- each once, the first ones -/
noncomputable def nub : List Trace → List Trace
  | [] => []
  | x :: r => x :: (nub r).filter (fun y => decide (y ≠ x))
theorem nub_nodup : ∀ l, (nub l).Nodup
  | [] => List.nodup_nil
  | x :: r => by
    simp only [nub, List.nodup_cons]
    exact ⟨by simp, (nub_nodup r).filter _⟩
theorem take_filter_ne (x : Trace) : ∀ (L : List Trace) (m : Nat), L.Nodup → ((L.take (m+1)).filter (fun y => decide (y ≠ x))).take m = (L.filter (fun y => decide (y ≠ x))).take m
  | [], m, _ => by simp
  | y :: r, 0, _ => by simp
  | y :: r, m+1, h => by
    obtain ⟨h1, h2⟩ := List.nodup_cons.1 h
    by_cases hy : y = x
    · subst hy
      have e1 : ∀ q : List Trace, y ∉ q → q.filter (fun z => decide (z ≠ y)) = q := fun q hq => List.filter_eq_self.2 fun z hz => by
        have : z ≠ y := fun e => hq (e ▸ hz)
        simp [this]
      rw [List.take_succ_cons]
      simp only [List.filter_cons, ne_eq, not_true_eq_false, decide_false, Bool.false_eq_true, if_false]
      have e2 := e1 r h1
      have e3 := e1 (r.take (m+1)) (fun hm => h1 (List.mem_of_mem_take hm))
      simp only [ne_eq] at e2 e3
      rw [e2, e3, List.take_take, Nat.min_self]
    · rw [List.take_succ_cons]
      have ih := take_filter_ne x r m h2
      simp only [List.filter_cons, ne_eq, hy, not_false_eq_true, decide_true, if_true, List.take_succ_cons]
      simp only [ne_eq] at ih
      rw [ih]
theorem addL_nub (m : Nat) (x : Trace) (L : List Trace) (h : L.Nodup) : addL (m+1) x (L.take (m+1)) = (x :: L.filter (fun y => decide (y ≠ x))).take (m+1) := by
  unfold addL
  rw [kp_eq, List.take_succ_cons, List.take_succ_cons, take_filter_ne x L m h]
theorem foldK_nub (m : Nat) (k : Dig) (l : List Trace) : l.foldl (stepK (m+1) k) [] = (nub (l.filter (fun x => decide (x.key = k ∧ checkV x = 0))).reverse).take (m+1) := by
  have key : ∀ r : List Trace, r.reverse.foldl (stepK (m+1) k) [] = (nub (r.filter (fun x => decide (x.key = k ∧ checkV x = 0)))).take (m+1) := by
    intro r
    induction r with
    | nil => simp [nub]
    | cons x r ih =>
      rw [List.reverse_cons, List.foldl_append, ih]
      by_cases hx : x.key = k ∧ checkV x = 0
      · simp only [List.foldl_cons, List.foldl_nil, List.filter_cons, hx, and_self, decide_true, if_true, nub]
        unfold stepK
        rw [if_pos hx]
        exact addL_nub m x _ (nub_nodup _)
      · simp only [List.foldl_cons, List.foldl_nil, List.filter_cons, hx, decide_false, Bool.false_eq_true, if_false]
        unfold stepK
        rw [if_neg hx]
  have := key l.reverse
  rw [List.reverse_reverse, List.filter_reverse] at this
  exact this
/-- as the statement reckons it -/
noncomputable def stepW (mo : Nat) (o : Dig) (k : Dig) (w : List Trace) (x : Trace) : List Trace :=
  if (checkV x = 0 ∧ ¬ x.key = o) ∧ x ∉ w ∧ x.key = k ∧ w.length < mo then w ++ [x] else w
theorem foldW_nub (mo : Nat) (o k : Dig) (hok : ¬ k = o) : ∀ (r w : List Trace), w.length ≤ mo →
    r.foldl (stepW mo o k) w = w ++ (((nub (r.filter (fun x => decide (x.key = k ∧ checkV x = 0)))).filter (fun y => decide (y ∉ w))).take (mo - w.length))
  | [], w, _ => by simp [nub]
  | x :: r, w, hw => by
    rw [List.foldl_cons]
    by_cases hx : x.key = k ∧ checkV x = 0
    · have hxo : ¬ x.key = o := fun e => hok (hx.1 ▸ e)
      simp only [List.filter_cons, hx, and_self, decide_true, if_true, nub]
      by_cases hm : x ∈ w
      · have e1 : stepW mo o k w x = w := by simp [stepW, hm]
        rw [e1, foldW_nub mo o k hok r w hw]
        congr 2
        simp only [hm, not_true_eq_false, decide_false, Bool.false_eq_true, if_false, List.filter_filter]
        apply List.filter_congr
        intro y _
        by_cases hy : y ∈ w
        · simp [hy]
        · have : y ≠ x := fun e => hy (e ▸ hm)
          simp [hy, this]
      · by_cases hl : w.length < mo
        · have e1 : stepW mo o k w x = w ++ [x] := by simp [stepW, hm, hx.1, hx.2, hxo, hl, hok]
          rw [e1, foldW_nub mo o k hok r (w ++ [x]) (by simp; omega)]
          rw [List.append_assoc]
          congr 1
          have e2 : mo - w.length = (mo - (w ++ [x]).length) + 1 := by simp; omega
          rw [e2]
          simp only [hm, not_false_eq_true, decide_true, if_true, List.take_succ_cons, List.cons_append, List.nil_append, List.filter_filter]
          congr 2
          apply List.filter_congr
          intro y _
          by_cases h1 : y ∈ w <;> by_cases h2 : y = x <;> simp [h1, h2]
        · have e1 : stepW mo o k w x = w := by simp [stepW, hl]
          have e2 : mo - w.length = 0 := by omega
          rw [e1, foldW_nub mo o k hok r w hw, e2]
          simp
    · have e1 : stepW mo o k w x = w := by
        unfold stepW
        rw [if_neg]
        rintro ⟨⟨h1, _⟩, _, h2, _⟩
        exact hx ⟨h2, h1⟩
      rw [e1, foldW_nub mo o k hok r w hw]
      simp only [List.filter_cons, hx, decide_false, Bool.false_eq_true, if_false]
/-- THE LAW. -/
theorem keeps_law (m : Nat) (o : Trace) (k : Dig) (hok : ¬ k = o.key) (l : List Trace) : getD (l.foldl (step3 (m+1) o) []) k = l.reverse.foldl (stepW (m+1) o.key k) [] := by
  have h : ¬ o.key = k := fun e => hok e.symm
  rw [getD_fold3 h, foldW_nub (m+1) o.key k hok _ _ (by simp), show getD [] k = [] from rfl, foldK_nub]
  simp [List.filter_reverse]
  rw [List.filter_eq_self.2 (fun _ _ => rfl)]
theorem stepW_len {mo : Nat} {o k : Dig} {w : List Trace} {x : Trace} (h : w.length ≤ mo) : (stepW mo o k w x).length ≤ mo := by
  unfold stepW
  split
  · rename_i hc; simp; omega
  · exact h
end Go.Proofs.YthdgnfnalimcnaaGreatDoor
