/- A row's text tells its texts; a trace's bytes tell the trace. No condition beyond each theorem's own. -/
import Derived.Test.YthdgnfnalimcnaaGreatDoorP20
set_option linter.unusedSimpArgs false
set_option linter.unusedVariables false
set_option linter.unusedSectionVars false
set_option maxRecDepth 100000
/-! A row's text tells its texts; a trace's bytes tell the trace. -/
namespace Go.Proofs.YthdgnfnalimcnaaGreatDoor
open Go Go.Ab
open Classical
variable [Sel] [SelPow]
attribute [local simp] vc_skip hiLen zN capV cpyD appendZ clearV delV mdel copyVT extV ovV vc_label vc_region vc_drawn vc_seq vc_cond vc_block vc_exit vc_goto vc_ret vc_loop vc_scope vcOps_nil vcOps_cons vcPs_nil vcPs_cons vcDs_nil vcDs_cons vcD impB mkd wkOf isCallV rdOK_eq rdO_nil rdO_tmp rdO_const rdO_global rdO_func rdL_nil rdL_cons rdT_av rdT_cst rdT_pel rdT_tup rdT_junk rdT_loc St.app Op.operands Call.operands vcG_eq iteP wkOf isCallV vcOp putK_eq pureV ev co coC asI asB asS isNil nkOf derefV fieldAddrV indexAddrV indexV lowV boundsV sliceV pickV_eq unV convV convB bytesOf capOf lenV minV maxV withSrc slice3V lookupV mapOf mfind mput scalT mapUpdV makeSliceV appendM appendN growM growOK zM binI isConst binV St.put upd KSeq_n KSeq_x KSeq_g KSeq_r KBlock_n KBlock_x KBlock_g KBlock_r KScope_n KScope_x KScope_r KRet_n KRet_r resL retTV TV.er AV.er AV.ers AV.erk AV.erks Tok.k Heap.er_nil Heap.er_cons Heap.er_app HObj.er_var HObj.er_map Heap.keys_nil Heap.keys_cons Heap.keys_app hget hset subT getP setP_nil setP_one setP_two setPo_some storeV buildV buildL partsOf capTV argOK entry St.of lk_nil lk_cons leLoc siterOf_siter gB_undef gB_av gB_cst undef isNE_tmp isSlT nslD nslDs mslOf mstrV copyV copyK unsV ustrV hdel dataV sameP mtbD isSlN slNilV vcDo_nil vcDo_cons isLt sft sftD softV rangeMV entryMV cmpV

theorem decDigits_ne (u : Nat) : ∀ b ∈ Lib.decDigits u, b ≠ 58 := by
  induction u using Nat.strongRecOn with
  | ind u ih =>
    rw [Lib.decDigits]
    have key : ∀ d : Nat, d < 10 → UInt8.ofNat (48 + d) ≠ 58 := fun d hd e => by
      have := congrArg UInt8.toNat e
      simp at this
      omega
    split
    · rename_i h
      intro b hb
      rw [List.mem_singleton] at hb
      subst hb
      exact key u h
    · rename_i h
      intro b hb
      rcases List.mem_append.1 hb with hb | hb
      · exact ih (u / 10) (by omega) b hb
      · rw [List.mem_singleton] at hb
        subst hb
        exact key (u % 10) (by omega)
def valD (l : List UInt8) : Nat := l.foldl (fun a b => a * 10 + (b.toNat - 48)) 0
theorem valD_decDigits (u : Nat) : valD (Lib.decDigits u) = u := by
  induction u using Nat.strongRecOn with
  | ind u ih =>
    have key : ∀ d : Nat, d < 10 → (UInt8.ofNat (48 + d)).toNat - 48 = d := fun d hd => by simp; omega
    rw [Lib.decDigits]
    split
    · rename_i h
      simp only [valD, List.foldl_cons, List.foldl_nil, key u h]
      omega
    · rename_i h
      have := ih (u / 10) (by omega)
      unfold valD at this ⊢
      rw [List.foldl_append, this]
      simp only [List.foldl_cons, List.foldl_nil, key (u % 10) (by omega)]
      omega
theorem itoa_nat (n : Nat) : Lib.itoa (n : Int) = Lib.decDigits n := by
  unfold Lib.itoa
  rw [if_neg (by omega)]
  simp
theorem itoa_inj {m n : Nat} (h : Lib.itoa (m : Int) = Lib.itoa (n : Int)) : m = n := by
  rw [itoa_nat, itoa_nat] at h
  rw [← valD_decDigits m, h, valD_decDigits]
theorem split58 : ∀ {a b x y : List UInt8}, (∀ c ∈ a, c ≠ 58) → (∀ c ∈ b, c ≠ 58) → a ++ 58 :: x = b ++ 58 :: y → a = b ∧ x = y
  | [], [], x, y, _, _, h => by
    simp only [List.nil_append, List.cons.injEq, true_and] at h
    exact ⟨rfl, h⟩
  | [], c :: b, x, y, _, hb, h => by
    simp only [List.nil_append, List.cons_append, List.cons.injEq] at h
    exact (hb c (by simp) h.1.symm).elim
  | c :: a, [], x, y, ha, _, h => by
    simp only [List.nil_append, List.cons_append, List.cons.injEq] at h
    exact (ha c (by simp) h.1).elim
  | c :: a, d :: b, x, y, ha, hb, h => by
    simp only [List.cons_append, List.cons.injEq] at h
    obtain ⟨e1, e2⟩ := split58 (fun z hz => ha z (by simp [hz])) (fun z hz => hb z (by simp [hz])) h.2
    exact ⟨by rw [h.1, e1], e2⟩
theorem rowV_cons (s : List UInt8) (l : List (List UInt8)) : rowV (s :: l) = Lib.itoa s.length ++ 58 :: (s ++ rowV l) := by
  simp [rowV]
theorem rowV_inj : ∀ {a b : List (List UInt8)}, rowV a = rowV b → a = b
  | [], [], _ => rfl
  | [], s :: l, h => by
    rw [rowV_cons] at h
    have := congrArg List.length h
    simp [rowV] at this
  | s :: l, [], h => by
    rw [rowV_cons] at h
    have := congrArg List.length h
    simp [rowV] at this
  | s :: l, s' :: l', h => by
    rw [rowV_cons, rowV_cons] at h
    obtain ⟨e1, e2⟩ := split58 (by rw [itoa_nat]; exact decDigits_ne _) (by rw [itoa_nat]; exact decDigits_ne _) h
    have e3 := itoa_inj e1
    obtain ⟨e4, e5⟩ := List.append_inj e2 e3
    rw [e4, rowV_inj e5]
def okS (r : Read) : Prop := r.sum.length = 32 ∧ (r.is = false → r.sum = zero32)
theorem readT_inj {r r' : Read} (h : okS r) (h' : okS r') (e : readT r = readT r') : r = r' := by
  obtain ⟨p, i, s⟩ := r
  obtain ⟨p', i', s'⟩ := r'
  obtain ⟨h1, h2⟩ := h
  obtain ⟨h1', h2'⟩ := h'
  simp only [readT, List.cons.injEq, and_true] at e
  simp only at h1 h2 h1' h2'
  obtain ⟨rfl, e⟩ := e
  cases i <;> cases i'
  · rw [h2 rfl, h2' rfl]
  · simp only [Bool.false_eq_true, if_false, if_true] at e
    rw [← e] at h1'; cases h1'
  · simp only [Bool.false_eq_true, if_false, if_true] at e
    rw [e] at h1; cases h1
  · simp only [if_true] at e
    rw [e]
theorem reads_inj : ∀ {l l' : List Read}, (∀ r ∈ l, okS r) → (∀ r ∈ l', okS r) → l.flatMap readT = l'.flatMap readT → l = l'
  | [], [], _, _, _ => rfl
  | [], r :: l, _, _, h => by simp [readT] at h
  | r :: l, [], _, _, h => by simp [readT] at h
  | r :: l, r' :: l', h1, h2, h => by
    rw [List.flatMap_cons, List.flatMap_cons] at h
    obtain ⟨e1, e2⟩ := List.append_inj h (by simp [readT])
    rw [readT_inj (h1 r (by simp)) (h2 r' (by simp)) e1, reads_inj (fun x hx => h1 x (by simp [hx])) (fun x hx => h2 x (by simp [hx])) e2]
theorem mades_inj : ∀ {l l' : List Made}, l.flatMap madeT = l'.flatMap madeT → l = l'
  | [], [], _ => rfl
  | [], r :: l, h => by simp [madeT] at h
  | r :: l, [], h => by simp [madeT] at h
  | ⟨p, s⟩ :: l, ⟨p', s'⟩ :: l', h => by
    rw [List.flatMap_cons, List.flatMap_cons] at h
    obtain ⟨e1, e2⟩ := List.append_inj h (by simp [madeT])
    simp only [madeT, List.cons.injEq, and_true] at e1
    rw [e1.1, e1.2, mades_inj e2]
theorem reads_len (l : List Read) : (l.flatMap readT).length = 2 * l.length := by
  induction l with
  | nil => rfl
  | cons r l ih => rw [List.flatMap_cons, List.length_append, ih]; simp [readT]; omega
theorem bytesL_inj {a b : Trace} (ha : ∀ r ∈ a.reads, okS r) (hb : ∀ r ∈ b.reads, okS r) (h : bytesL a = bytesL b) : a = b := by
  obtain ⟨k, r, o⟩ := a
  obtain ⟨k', r', o'⟩ := b
  simp only [bytesL, List.cons_append, List.nil_append, List.cons.injEq] at h
  obtain ⟨e1, e2, e3⟩ := h
  have e4 := itoa_inj e2
  obtain ⟨e5, e6⟩ := List.append_inj e3 (by rw [reads_len, reads_len, e4])
  have e7 : r = r' := reads_inj ha hb e5
  have e8 := mades_inj e6
  subst e1 e7 e8
  rfl
theorem readsV_zero : ∀ {l : List Read} {met : List (List UInt8)}, readsV met l = 0 → ∀ r ∈ l, mayV r.path = true ∧ (r.is = false → r.sum = zero32)
  | [], _, _, r, hr => by cases hr
  | x :: l, met, h, r, hr => by
    unfold readsV at h
    split at h
    · cases h
    · split at h
      · cases h
      · split at h
        · cases h
        · rename_i h1 h2 h3
          rcases List.mem_cons.1 hr with rfl | hr
          · exact ⟨by simpa using h1, fun hi => Classical.byContradiction fun hn => h3 ⟨hi, hn⟩⟩
          · exact readsV_zero h r hr
theorem outsV_zero : ∀ {l : List Made} {o : Option (List UInt8)}, outsV o l = 0 → ∀ m ∈ l, underV m.path outT = true
  | [], _, _, m, hm => by cases hm
  | x :: l, none, h, m, hm => by
    unfold outsV at h
    split at h
    · cases h
    · rename_i h1
      rcases List.mem_cons.1 hm with rfl | hm
      · simpa using h1
      · exact outsV_zero h m hm
  | x :: l, some q, h, m, hm => by
    unfold outsV at h
    split at h
    · cases h
    · split at h
      · cases h
      · split at h
        · cases h
        · rename_i h1 _ _
          rcases List.mem_cons.1 hm with rfl | hm
          · simpa using h1
          · exact outsV_zero h m hm
theorem splitB_total (c : UInt8) : ∀ l, l.length + 1 = ((splitB c l).map fun x => x.length + 1).sum
  | [] => rfl
  | b :: l => by
    have ih := splitB_total c l
    unfold splitB
    split
    · simp only [List.map_cons, List.sum_cons, List.length_cons, List.length_nil]; omega
    · split
      · rename_i h; rw [h] at ih; simp at ih
      · rename_i x r h
        rw [h] at ih
        simp only [List.map_cons, List.sum_cons, List.length_cons] at ih ⊢
        omega
theorem sum_le65 : ∀ l : List (List UInt8), (∀ x ∈ l, x.length ≤ 64) → (l.map fun x => x.length + 1).sum ≤ 65 * l.length
  | [], _ => by simp
  | x :: l, h => by
    have := sum_le65 l fun y hy => h y (by simp [hy])
    have := h x (by simp)
    simp only [List.map_cons, List.sum_cons, List.length_cons]; omega
theorem mayV_len {l : List UInt8} (h : mayV l = true) : l.length ≤ 1040 := by
  simp only [mayV, Bool.and_eq_true, decide_eq_true_eq, List.all_eq_true] at h
  have h1 := splitB_total 47 l
  have h2 := sum_le65 (splitB 47 l) fun x hx => by
    have := h.2 x hx
    simp only [partV, Bool.and_eq_true, decide_eq_true_eq] at this
    exact this.1.2.1
  omega
theorem decDigits_le (u : Nat) : (Lib.decDigits u).length ≤ u + 1 := by
  induction u using Nat.strongRecOn with
  | ind u ih =>
    rw [Lib.decDigits]
    split
    · simp
    · have := ih (u / 10) (by omega)
      simp; omega
theorem rowV_le : ∀ {l : List (List UInt8)} {n : Nat}, (∀ x ∈ l, x.length ≤ n) → (rowV l).length ≤ (2 * n + 2) * l.length
  | [], _, _ => by simp [rowV]
  | s :: l, n, h => by
    have ih := rowV_le (l := l) fun y hy => h y (by simp [hy])
    have h1 := h s (by simp)
    have h2 := decDigits_le s.length
    rw [rowV_cons, itoa_nat]
    simp only [List.length_append, List.length_cons, Nat.mul_add]
    omega
theorem mades_len (l : List Made) : (l.flatMap madeT).length = 2 * l.length := by
  induction l with
  | nil => rfl
  | cons r l ih => rw [List.flatMap_cons, List.length_append, ih]; simp [madeT]; omega
theorem checkV_parts {t : Trace} (h : checkV t = 0) : readsV [] t.reads = 0 ∧ outsV none t.outs = 0 := by
  unfold checkV at h
  split at h
  · cases h
  · split at h
    · rename_i h1; exact (h1 h).elim
    · rename_i h1; exact ⟨by simpa using h1, h⟩
theorem bytes_len7 {t : Trace} (hd : TrD t) (h : checkV t = 0) : (rowV (bytesL t)).length ≤ 6300000 := by
  obtain ⟨h1, h2⟩ := checkV_len h
  obtain ⟨h3, h4⟩ := checkV_parts h
  obtain ⟨d1, d2, d3⟩ := hd
  have := rowV_le (l := bytesL t) (n := 1040) (by
    intro x hx
    simp only [bytesL, List.mem_append, List.mem_cons, List.mem_flatMap, List.not_mem_nil, or_false] at hx
    rcases hx with ((rfl | rfl) | ⟨r, hr, hx⟩) | ⟨m, hm, hx⟩
    · omega
    · have := decDigits_le t.reads.length
      rw [itoa_nat]; omega
    · have := mayV_len (readsV_zero h3 r hr).1
      simp only [readT, List.mem_cons, List.not_mem_nil, or_false] at hx
      rcases hx with rfl | rfl
      · exact this
      · split
        · have := d2 r hr; omega
        · simp
    · have hu := outsV_zero h4 m hm
      simp only [underV, Bool.and_eq_true] at hu
      have := mayV_len hu.1
      simp only [madeT, List.mem_cons, List.not_mem_nil, or_false] at hx
      rcases hx with rfl | rfl
      · exact this
      · have := d3 m hm; omega)
  have hl : (bytesL t).length ≤ 3002 := by
    simp only [bytesL, List.length_append, reads_len, mades_len, List.length_cons, List.length_nil]; omega
  have : (2 * 1040 + 2) * (bytesL t).length ≤ (2 * 1040 + 2) * 3002 := Nat.mul_le_mul_left _ hl
  omega
theorem bytes_len {t : Trace} (hd : TrD t) (h : checkV t = 0) : (rowV (bytesL t)).length ≤ 10000000000 := Nat.le_trans (bytes_len7 hd h) (by omega)
theorem okS_of_check {t : Trace} (hd : TrD t) (h : checkV t = 0) : ∀ r ∈ t.reads, okS r := fun r hr => ⟨hd.2.1 r hr, (readsV_zero (checkV_parts h).1 r hr).2⟩
theorem row_same {a b : Trace} (ha : TrD a) (hb : TrD b) (ca : checkV a = 0) (cb : checkV b = 0) : decide (rowV (bytesL a) = rowV (bytesL b)) = sameV a b := by
  rw [Bool.eq_iff_iff, sameV_iff, decide_eq_true_eq]
  exact ⟨fun h => bytesL_inj (okS_of_check ha ca) (okS_of_check hb cb) (rowV_inj h), fun h => by rw [h]⟩
end Go.Proofs.YthdgnfnalimcnaaGreatDoor
