/- A row's texts, taken one by one: the program. No condition beyond each theorem's own. -/
import Derived.Test.YthdgnfnalimcnaaGreatDoorP46
import Derived.Test.YthdgnfnalimcnaaGreatDoorP25ToPW
import Derived.Test.YthdgnfnalimcnaaGreatDoorP17ToPD
set_option linter.unusedSimpArgs false
set_option linter.unusedVariables false
set_option linter.unusedSectionVars false
set_option maxRecDepth 100000
/-! A row's texts, taken one by one: the program. -/
namespace Go.Proofs.YthdgnfnalimcnaaGreatDoor
open Go Go.Ab
open Classical
variable [Sel] [SelPow] [SelErr]

@[simp] theorem fnok84 : fnOK Tryz.prog 84 = true := by kernel_rfl
@[simp] theorem isne84 : isNE Tryz.prog (.func 84) = false := isNE_func fnok84
@[simp] theorem fnok81 : fnOK Tryz.prog 81 = true := by kernel_rfl
@[simp] theorem isne81 : isNE Tryz.prog (.func 81) = false := isNE_func fnok81
@[simp] theorem fnok82 : fnOK Tryz.prog 82 = true := by kernel_rfl
@[simp] theorem isne82 : isNE Tryz.prog (.func 82) = false := isNE_func fnok82
@[simp] theorem fnok83 : fnOK Tryz.prog 83 = true := by kernel_rfl
@[simp] theorem isne83 : isNE Tryz.prog (.func 83) = false := isNE_func fnok83
@[simp] theorem fnok49 : fnOK Tryz.prog 49 = true := by kernel_rfl
@[simp] theorem isne49 : isNE Tryz.prog (.func 49) = false := isNE_func fnok49
abbrev CurT : TyD := .struct [68, 4]
def curO (B : Nat) (l : List (List UInt8)) (bad : Bool) : Heap := [(B, .var CurT (.agg [.sl .no (strs' l), .b bad]))]
@[simp] theorem curO_er (B : Nat) (l : List (List UInt8)) (bad : Bool) : (curO B l bad).er = curO B l bad := by
  simp [curO, Heap.er_cons, Heap.er_nil, HObj.er_var, AV.erk, AV.erks, Tok.k]
def cT (l : List (List UInt8)) (bad : Bool) : List UInt8 × List (List UInt8) × Bool := match l with
  | [] => ([], [], true)
  | s :: r => (s, r, bad)
def digV (s : List UInt8) : Dig := (s ++ zero32).take 32
theorem digV_eq {s : List UInt8} (h : s.length = 32) : digV s = s := by unfold digV; rw [← h, List.take_left]
theorem digV_len (s : List UInt8) : (digV s).length = 32 := by simp [digV, zero32]
def cD (l : List (List UInt8)) (bad : Bool) : Dig × List (List UInt8) × Bool := (digV (cT l bad).1, (cT l bad).2.1, (cT l bad).2.2 || decide ((cT l bad).1.length ≠ 32))
noncomputable def cN (l : List (List UInt8)) (bad : Bool) : Int × List (List UInt8) × Bool := match intV (cT l bad).1 with
  | some n => if 0 ≤ n ∧ n ≤ (((cT l bad).2.1.length / 2 : Nat) : Int) then (n, (cT l bad).2.1, (cT l bad).2.2) else (0, (cT l bad).2.1, true)
  | none => (0, (cT l bad).2.1, true)
def cR (l : List (List UInt8)) (bad : Bool) : Read × List (List UInt8) × Bool :=
  if (cT l bad).2.1.head? = some [] then (⟨(cT l bad).1, false, zero32⟩, (cT l bad).2.1.drop 1, (cT l bad).2.2)
  else (⟨(cT l bad).1, true, (cD (cT l bad).2.1 (cT l bad).2.2).1⟩, (cD (cT l bad).2.1 (cT l bad).2.2).2)
set_option maxHeartbeats 4000000 in
theorem ctext_ok (B : Nat) (l : List (List UInt8)) (bad : Bool) (hl : l.length ≤ 1000000000) :
    ACalls Tryz.prog 84 [.av .ptr (.ptr B CurT [])] (curO B l bad) fun r H' => r = .av .str (.s (cT l bad).1) ∧ H' = curO B (cT l bad).2.1 (cT l bad).2.2 := by
  refine ACalls.of_vc laid mixed Tryz.func84 rfl (by kernel_rfl) cf0 (by simp [Tryz.ntmps84]) fun imm0 w0 => ?_
  cases l with
  | nil => (simp (maxSteps := 2000000) (disch := first | omega | assumption) [zz, curO, strs', cT, Tryz.f84])
  | cons s r =>
    have hz : ¬ ((r.length : Int) + 1) = 0 := by omega
    have h1 : (1 : Int) ≤ (r.length : Int) + 1 := by omega
    have htk : List.take r.length (List.map AV.s r) = List.map AV.s r := List.take_of_length_le (by simp)
    (simp (maxSteps := 2000000) (disch := first | omega | assumption) [zz, curO, strs', cT, hz, h1, htk])
    (simp (maxSteps := 2000000) (disch := first | omega | assumption) [zz, Tryz.f84, AV.ers_eq, Function.comp_def])
theorem dig_cells (s : List UInt8) : List.take 32 (List.map (fun b : UInt8 => AV.i .u8 b.toNat) s) ++ List.drop (min 32 s.length) [AV.i .u8 0, AV.i .u8 0, AV.i .u8 0, AV.i .u8 0, AV.i .u8 0, AV.i .u8 0, AV.i .u8 0, AV.i .u8 0, AV.i .u8 0, AV.i .u8 0, AV.i .u8 0, AV.i .u8 0, AV.i .u8 0, AV.i .u8 0, AV.i .u8 0, AV.i .u8 0, AV.i .u8 0, AV.i .u8 0, AV.i .u8 0, AV.i .u8 0, AV.i .u8 0, AV.i .u8 0, AV.i .u8 0, AV.i .u8 0, AV.i .u8 0, AV.i .u8 0, AV.i .u8 0, AV.i .u8 0, AV.i .u8 0, AV.i .u8 0, AV.i .u8 0, AV.i .u8 0] = (digV s).map fun b : UInt8 => AV.i .u8 b.toNat := by
  show _ ++ List.drop (min 32 s.length) ((List.replicate 32 (0 : UInt8)).map fun b : UInt8 => AV.i .u8 b.toNat) = _
  unfold digV zero32
  rw [← List.map_take, ← List.map_drop, ← List.map_append, List.take_append, List.drop_replicate, List.take_replicate]
  congr 3; omega
theorem dig_cells32 {s : List UInt8} (h : s.length = 32) : List.take 32 (List.map (fun b : UInt8 => AV.i .u8 b.toNat) s) = (digV s).map fun b : UInt8 => AV.i .u8 b.toNat := by
  rw [digV_eq h, List.take_of_length_le (by simp [h])]
abbrev cfDg : Cfg := ⟨fun n => n == 3, fun _ => false⟩
set_option maxHeartbeats 4000000 in
theorem cdigest_ok (B : Nat) (l : List (List UInt8)) (bad : Bool) (hl : l.length ≤ 1000000000) (hs : ∀ x ∈ l, x.length ≤ 1000000000) :
    ACalls Tryz.prog 81 [.av .ptr (.ptr B CurT [])] (curO B l bad) fun r H' => r = .av (tyOf Tryz.prog 30) (encD (cD l bad).1) ∧ H' = curO B (cD l bad).2.1 (cD l bad).2.2 := by
  refine ACalls.drop (R := fun r H' => r = .av (tyOf Tryz.prog 30) (encD (cD l bad).1) ∧ ∃ B2 o, H' = curO B (cD l bad).2.1 (cD l bad).2.2 ++ [(B2, o)]) ?_ ?_
  rotate_left
  · rintro r H' ⟨rfl, B2, o, rfl⟩
    exact ⟨_, List.sublist_append_left _ _, rfl, rfl⟩
  refine ACalls.of_vc laid mixed Tryz.func81 rfl (by kernel_rfl) cfDg (by simp [Tryz.ntmps81]) fun imm0 w0 => ?_
  (simp (maxSteps := 2000000) (disch := first | omega | assumption) [zz, curO])
  intro B2 hB2
  have hB2' : ¬ B = B2 := fun e => hB2 e.symm
  obtain ⟨s1, hs1⟩ : ∃ s1, (cT l bad).1 = s1 := ⟨_, rfl⟩
  obtain ⟨l1, hl1⟩ : ∃ l1, (cT l bad).2.1 = l1 := ⟨_, rfl⟩
  obtain ⟨b1, hb1⟩ : ∃ b1, (cT l bad).2.2 = b1 := ⟨_, rfl⟩
  have hs1l : s1.length ≤ 1000000000 := by
    rw [← hs1]
    cases l with
    | nil => simp [cT]
    | cons x r => exact hs x (by simp)
  have hcd : cD l bad = (digV s1, l1, b1 || decide (s1.length ≠ 32)) := by simp only [cD, hs1, hl1, hb1]
  have htx := ctext_ok B l bad hl
  rw [hs1, hl1, hb1] at htx
  rw [hcd]
  refine callV_sub (R := fun r H' => r = .av .str (.s s1) ∧ H' = curO B l1 b1) (curO B l bad) [(B2, .var (.arr 32 5) (.agg [.i .u8 0, .i .u8 0, .i .u8 0, .i .u8 0, .i .u8 0, .i .u8 0, .i .u8 0, .i .u8 0, .i .u8 0, .i .u8 0, .i .u8 0, .i .u8 0, .i .u8 0, .i .u8 0, .i .u8 0, .i .u8 0, .i .u8 0, .i .u8 0, .i .u8 0, .i .u8 0, .i .u8 0, .i .u8 0, .i .u8 0, .i .u8 0, .i .u8 0, .i .u8 0, .i .u8 0, .i .u8 0, .i .u8 0, .i .u8 0, .i .u8 0, .i .u8 0]))] (by simp only [curO]; exact List.Perm.swap _ _ _) rfl (by simp [argOK]) (by simp) ?_ ?_
  · simpa [TV.er, AV.er] using htx
  rintro r H' ⟨rfl, rfl⟩ _
  refine ⟨_, HSub.refl _, ?_⟩
  cases b1 with
  | true =>
    (simp (maxSteps := 2000000) (disch := first | omega | assumption) [zz, curO, hB2, hB2', dig_cells])
    (simp (maxSteps := 2000000) (disch := first | omega | assumption) [zz, Tryz.f81, encD, AV.ers_eq, Function.comp_def, digV_len])
  | false =>
    by_cases h32 : s1.length = 32
    · have h32' : (s1.length : Int) = 32 := by omega
      (simp (maxSteps := 2000000) (disch := first | omega | assumption) [zz, curO, hB2, hB2', h32, h32', dig_cells, dig_cells32 h32])
      (simp (maxSteps := 2000000) (disch := first | omega | assumption) [zz, Tryz.f81, encD, AV.ers_eq, Function.comp_def, digV_len])
    · have h32' : ¬ (s1.length : Int) = 32 := by omega
      (simp (maxSteps := 2000000) (disch := first | omega | assumption) [zz, curO, hB2, hB2', h32, h32', dig_cells])
      (simp (maxSteps := 2000000) (disch := first | omega | assumption) [zz, Tryz.f81, encD, AV.ers_eq, Function.comp_def, digV_len])
theorem cT_len (l : List (List UInt8)) (bad : Bool) : (cT l bad).2.1.length ≤ l.length := by cases l <;> simp [cT]
theorem cT_mem {l : List (List UInt8)} {bad : Bool} {x : List UInt8} (h : x ∈ (cT l bad).2.1) : x ∈ l := by
  cases l with
  | nil => simp [cT] at h
  | cons s r => simp only [cT] at h; exact List.mem_cons_of_mem _ h
theorem cT_fst {l : List (List UInt8)} {bad : Bool} (hs : ∀ x ∈ l, x.length ≤ 1000000000) : (cT l bad).1.length ≤ 1000000000 := by
  cases l with
  | nil => simp [cT]
  | cons x r => exact hs x (by simp)
set_option maxHeartbeats 4000000 in
theorem cnumber_ok (B : Nat) (l : List (List UInt8)) (bad : Bool) (hl : l.length ≤ 1000000000) (hs : ∀ x ∈ l, x.length ≤ 1000000000) :
    ACalls Tryz.prog 82 [.av .ptr (.ptr B CurT [])] (curO B l bad) fun r H' => r = .av (.int .i64) (.i .i64 (cN l bad).1) ∧ H' = curO B (cN l bad).2.1 (cN l bad).2.2 := by
  have htx := ctext_ok B l bad hl
  have hs1l := cT_fst (bad := bad) hs
  have hl1l := cT_len l bad
  obtain ⟨N, hN⟩ : ∃ N, cN l bad = N := ⟨_, rfl⟩
  rw [hN]
  unfold cN at hN
  obtain ⟨s1, hs1⟩ : ∃ s1, (cT l bad).1 = s1 := ⟨_, rfl⟩
  obtain ⟨l1, hl1⟩ : ∃ l1, (cT l bad).2.1 = l1 := ⟨_, rfl⟩
  obtain ⟨b1, hb1⟩ : ∃ b1, (cT l bad).2.2 = b1 := ⟨_, rfl⟩
  rw [hs1, hl1, hb1] at hN htx
  rw [hs1] at hs1l
  rw [hl1] at hl1l
  refine ACalls.of_vc laid mixed Tryz.func82 rfl (by kernel_rfl) cf0 (by simp [Tryz.ntmps82]) fun imm0 w0 => ?_
  (simp (maxSteps := 2000000) (disch := first | omega | assumption) [zz])
  refine callV_all (R := fun r H' => r = .av .str (.s s1) ∧ H' = curO B l1 b1) rfl (by simp [argOK]) (by simp) ?_ ?_
  · simpa [TV.er, AV.er] using htx
  rintro r H' ⟨rfl, rfl⟩
  (simp (maxSteps := 2000000) (disch := first | omega | assumption) [zz])
  refine callV_pc (int_ok s1 hs1l) rfl rfl (by simp) (by simp [argLe, TV.er, AV.er]) ?_
  have hdiv : ((l1.length : Int).tdiv 2) = (l1.length : Int) / 2 := Int.tdiv_eq_ediv_of_nonneg (by omega)
  cases hi : intV s1 with
  | none =>
    rw [hi] at hN
    simp only at hN
    (simp (maxSteps := 2000000) (disch := first | omega | assumption) [zz, intTV, curO])
    (simp (maxSteps := 2000000) (disch := first | omega | assumption) [zz, Tryz.f82, ← hN])
  | some n =>
    rw [hi] at hN
    simp only at hN
    obtain ⟨_, _, hn0, hn1⟩ := intV_some hi
    by_cases h0 : n < 0
    · rw [if_neg (by omega)] at hN
      (simp (maxSteps := 2000000) (disch := first | omega | assumption) [zz, intTV, curO, h0])
      (simp (maxSteps := 2000000) (disch := first | omega | assumption) [zz, Tryz.f82, ← hN])
    by_cases h1 : (l1.length : Int) / 2 < n
    · rw [if_neg (by omega)] at hN
      (simp (maxSteps := 2000000) (disch := first | omega | assumption) [zz, intTV, curO, h0, hdiv, h1])
      (simp (maxSteps := 2000000) (disch := first | omega | assumption) [zz, Tryz.f82, ← hN])
    · rw [if_pos (by omega)] at hN
      (simp (maxSteps := 2000000) (disch := first | omega | assumption) [zz, intTV, curO, h0, hdiv, h1])
      (simp (maxSteps := 2000000) (disch := first | omega | assumption) [zz, Tryz.f82, ← hN])
set_option maxHeartbeats 4000000 in
theorem cread_ok (B : Nat) (l : List (List UInt8)) (bad : Bool) (hl : l.length ≤ 1000000000) (hs : ∀ x ∈ l, x.length ≤ 1000000000) :
    ACalls Tryz.prog 83 [.av .ptr (.ptr B CurT [])] (curO B l bad) fun r H' => r = .av (tyOf Tryz.prog 59) (encRead (cR l bad).1) ∧ H' = curO B (cR l bad).2.1 (cR l bad).2.2 := by
  have htx := ctext_ok B l bad hl
  have hl1l := cT_len l bad
  have hm : ∀ x ∈ (cT l bad).2.1, x.length ≤ 1000000000 := fun x hx => hs x (cT_mem hx)
  obtain ⟨N, hN⟩ : ∃ N, cR l bad = N := ⟨_, rfl⟩
  rw [hN]
  unfold cR at hN
  obtain ⟨s1, hs1⟩ : ∃ s1, (cT l bad).1 = s1 := ⟨_, rfl⟩
  obtain ⟨l1, hl1⟩ : ∃ l1, (cT l bad).2.1 = l1 := ⟨_, rfl⟩
  obtain ⟨b1, hb1⟩ : ∃ b1, (cT l bad).2.2 = b1 := ⟨_, rfl⟩
  rw [hs1, hl1, hb1] at hN htx
  rw [hl1] at hl1l hm
  have hdg := cdigest_ok B l1 b1 (by omega) hm
  have htx2 := ctext_ok B l1 b1 (by omega)
  obtain ⟨d, hd⟩ : ∃ d, cD l1 b1 = d := ⟨_, rfl⟩
  obtain ⟨d1, d2, d3⟩ := d
  rw [hd] at hdg hN
  refine ACalls.of_vc laid mixed Tryz.func83 rfl (by kernel_rfl) cf0 (by simp [Tryz.ntmps83]) fun imm0 w0 => ?_
  (simp (maxSteps := 2000000) (disch := first | omega | assumption) [zz])
  refine callV_all (R := fun r H' => r = .av .str (.s s1) ∧ H' = curO B l1 b1) rfl (by simp [argOK]) (by simp) ?_ ?_
  · simpa [TV.er, AV.er] using htx
  rintro r H' ⟨rfl, rfl⟩
  cases hl2 : l1 with
  | nil =>
    subst hl2
    (simp (maxSteps := 2000000) (disch := first | omega | assumption) [zz, curO, strs'])
    refine callV_all (R := fun r H' => r = .av (tyOf Tryz.prog 30) (encD d1) ∧ H' = curO B d2 d3) rfl (by simp [argOK]) (by simp) ?_ ?_
    · simpa [TV.er, AV.er, curO, strs', AV.er, AV.ers_eq, Function.comp_def, AV.erk, AV.erks, Heap.er_cons, Heap.er_nil, HObj.er_var, Tok.k] using hdg
    rintro r' H' ⟨rfl, rfl⟩
    (simp (maxSteps := 2000000) (disch := first | omega | assumption) [zz, curO])
    (simp (maxSteps := 2000000) (disch := first | omega | assumption) [zz, Tryz.f83, ← hN, encRead])
    rfl
  | cons x r =>
    subst hl2
    have hpos : (0 : Int) < (r.length : Int) + 1 := by omega
    by_cases hx : x = []
    · subst hx
      simp only [cT] at htx2
      rw [if_pos (by rfl)] at hN
      (simp (maxSteps := 2000000) (disch := first | omega | assumption) [zz, curO, strs', hpos])
      refine callV_all (R := fun r' H' => r' = .av .str (.s []) ∧ H' = curO B r b1) rfl (by simp [argOK]) (by simp) ?_ ?_
      · simpa [TV.er, AV.er, curO, strs', AV.er, AV.ers_eq, AV.erk, AV.erks, AV.erks_eq, Function.comp_def, Heap.er_cons, Heap.er_nil, HObj.er_var, Tok.k] using htx2
      rintro r' H' ⟨rfl, rfl⟩
      (simp (maxSteps := 2000000) (disch := first | omega | assumption) [zz, curO])
      (simp (maxSteps := 2000000) (disch := first | omega | assumption) [zz, Tryz.f83, ← hN, encRead, encD_zero])
      rfl
    · rw [if_neg (by simpa using hx)] at hN
      (simp (maxSteps := 2000000) (disch := first | omega | assumption) [zz, curO, strs', hpos, hx])
      refine callV_all (R := fun r H' => r = .av (tyOf Tryz.prog 30) (encD d1) ∧ H' = curO B d2 d3) rfl (by simp [argOK]) (by simp) ?_ ?_
      · simpa [TV.er, AV.er, curO, strs', AV.er, AV.ers_eq, Function.comp_def, AV.erk, AV.erks, Heap.er_cons, Heap.er_nil, HObj.er_var, Tok.k] using hdg
      rintro r' H' ⟨rfl, rfl⟩
      (simp (maxSteps := 2000000) (disch := first | omega | assumption) [zz, curO])
      (simp (maxSteps := 2000000) (disch := first | omega | assumption) [zz, Tryz.f83, ← hN, encRead])
      rfl
end Go.Proofs.YthdgnfnalimcnaaGreatDoor
