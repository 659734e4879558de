/- A trace of bytes: the program. No condition beyond each theorem's own. -/
import Derived.Test.YthdgnfnalimcnaaGreatDoorP47
import Derived.Test.YthdgnfnalimcnaaGreatDoorP41ToP42
set_option linter.unusedSimpArgs false
set_option linter.unusedVariables false
set_option linter.unusedSectionVars false
set_option maxRecDepth 100000
/-! A trace of bytes: the program. -/
namespace Go.Proofs.YthdgnfnalimcnaaGreatDoor
open Go Go.Ab
open Classical
variable [Sel] [SelPow] [SelErr]

def pR : Nat → List (List UInt8) → Bool → List Read × List (List UInt8) × Bool
  | 0, l, b => ([], l, b)
  | n + 1, l, b => ((cR l b).1 :: (pR n (cR l b).2.1 (cR l b).2.2).1, (pR n (cR l b).2.1 (cR l b).2.2).2)
def pM : Nat → List (List UInt8) → Bool → List Made × Bool
  | 0, _, b => ([], b)
  | f + 1, l, b => if l = [] ∨ b = true then ([], b) else
      (⟨(cT l b).1, (cD (cT l b).2.1 (cT l b).2.2).1⟩ :: (pM f (cD (cT l b).2.1 (cT l b).2.2).2.1 (cD (cT l b).2.1 (cT l b).2.2).2.2).1, (pM f (cD (cT l b).2.1 (cT l b).2.2).2.1 (cD (cT l b).2.1 (cT l b).2.2).2.2).2)
def tr0 : Trace := ⟨zero32, [], []⟩
noncomputable def chkT (t : Trace) : Trace × Int := if checkV t = 0 then (t, 0) else (tr0, checkV t)
noncomputable def readP (l : List (List UInt8)) : Trace × Int :=
  let k := cD l false
  let n := cN k.2.1 k.2.2
  let r := pR n.1.toNat n.2.1 n.2.2
  let m := pM (l.length + 1) r.2.1 r.2.2
  if m.2 = true then (tr0, 3) else chkT ⟨k.1, r.1, m.1⟩
noncomputable def readTV (x : Trace × Int) : TV := .tup [(tyOf Tryz.prog 34, encTrace x.1), (.int .i64, .i .i64 x.2)]
noncomputable def readV (b : List UInt8) : Trace × Int := if (textsV b).2 = 0 then readP (textsV b).1 else (tr0, (textsV b).2)
theorem textsA_le : ∀ {f : Nat} {out : List (List UInt8)} {b : List UInt8} {m : Nat}, (∀ x ∈ out, x.length ≤ m) → b.length ≤ m → (∀ x ∈ (textsA f out b).1, x.length ≤ m) ∧ (textsA f out b).1.length ≤ out.length + b.length
  | 0, out, b, m, h, hb => ⟨h, by simp [textsA]⟩
  | f + 1, out, b, m, h, hb => by
    unfold textsA
    split
    · exact ⟨h, by simp⟩
    · cases hh : headV 0 0 b with
      | err e => exact ⟨by simp, by simp⟩
      | ok n rest =>
        have hl := headV_len hh
        simp only
        split
        · exact ⟨by simp, by simp⟩
        · obtain ⟨h1, h2⟩ := textsA_le (f := f) (out := out ++ [rest.take n]) (b := rest.drop n) (m := m) (fun x hx => by
            rcases List.mem_append.1 hx with hx | hx
            · exact h x hx
            · rw [List.mem_singleton] at hx; subst hx; rw [List.length_take]; omega) (by rw [List.length_drop]; omega)
          refine ⟨h1, Nat.le_trans h2 ?_⟩
          rw [List.length_append, List.length_drop]; simp; omega
theorem texts_le (b : List UInt8) : (∀ x ∈ (textsV b).1, x.length ≤ b.length) ∧ (textsV b).1.length ≤ b.length := by
  have := textsA_le (f := b.length + 1) (out := []) (b := b) (m := b.length) (by simp) (Nat.le_refl _)
  simpa [textsV] using this
def tkR (d : Nat) : Nat → Tok
  | 0 => .full
  | k+1 => .own d (k+1)
abbrev cfRd : Cfg := ⟨fun n => n == 22, fun n => n == 40 || n == 64 || n == 1000009 || n == 1000012 || n == 2000037 || n == 2000058 || n == 2000060⟩
theorem cD_sub (l : List (List UInt8)) (b : Bool) : (cD l b).2.1.length ≤ l.length ∧ ∀ x ∈ (cD l b).2.1, x ∈ l := ⟨cT_len l b, fun x hx => cT_mem hx⟩
theorem cN_sub (l : List (List UInt8)) (b : Bool) : (cN l b).2.1.length ≤ l.length ∧ (∀ x ∈ (cN l b).2.1, x ∈ l) ∧ 0 ≤ (cN l b).1 ∧ (cN l b).1 ≤ l.length := by
  have h1 := cT_len l b
  unfold cN
  split
  · split
    · rename_i h; exact ⟨h1, fun x hx => cT_mem hx, h.1, by have := h.2; simp only; omega⟩
    · exact ⟨h1, fun x hx => cT_mem hx, by simp, by simp⟩
  · exact ⟨h1, fun x hx => cT_mem hx, by simp, by simp⟩
theorem cR_sub (l : List (List UInt8)) (b : Bool) : (cR l b).2.1.length ≤ l.length ∧ ∀ x ∈ (cR l b).2.1, x ∈ l := by
  have h1 := cT_len l b
  have h2 := cD_sub (cT l b).2.1 (cT l b).2.2
  unfold cR
  split
  · exact ⟨by simp; omega, fun x hx => cT_mem (List.mem_of_mem_drop hx)⟩
  · exact ⟨by have := h2.1; simp only; omega, fun x hx => cT_mem (h2.2 x hx)⟩
theorem cR_path (l : List (List UInt8)) (b : Bool) : (cR l b).1.path = (cT l b).1 := by unfold cR; split <;> rfl
theorem pR_path : ∀ (n : Nat) (l : List (List UInt8)) (b : Bool), (∀ x ∈ l, x.length ≤ 1000000000) → ∀ r ∈ (pR n l b).1, r.path.length ≤ 1000000000
  | 0, l, b, h, r, hr => by simp [pR] at hr
  | n + 1, l, b, h, r, hr => by
    simp only [pR] at hr
    rcases List.mem_cons.1 hr with rfl | hr
    · rw [cR_path]; exact cT_fst h
    · exact pR_path n _ _ (fun x hx => h x ((cR_sub l b).2 x hx)) r hr
theorem pM_path : ∀ (n : Nat) (l : List (List UInt8)) (b : Bool), (∀ x ∈ l, x.length ≤ 1000000000) → ∀ r ∈ (pM n l b).1, r.path.length ≤ 1000000000
  | 0, l, b, h, r, hr => by simp [pM] at hr
  | n + 1, l, b, h, r, hr => by
    simp only [pM] at hr
    split at hr
    · cases hr
    · rcases List.mem_cons.1 hr with rfl | hr
      · exact cT_fst h
      · exact pM_path n _ _ (fun x hx => h x (cT_mem ((cD_sub _ _).2 x hx))) r hr
set_option maxHeartbeats 16000000 in
theorem read_ok (b : List UInt8) (hb : b.length ≤ 1000000000) : PC Tryz.prog 49 [.av .str (.s b)] (readTV (readV b)) := by
  obtain ⟨hl1, hl2⟩ := texts_le b
  obtain ⟨X, hX⟩ : ∃ X, readV b = X := ⟨_, rfl⟩
  rw [hX]
  unfold readV at hX
  have htx := texts_ok b hb
  obtain ⟨L, hL⟩ : ∃ L, textsV b = L := ⟨_, rfl⟩
  rw [hL] at hX htx hl1 hl2
  obtain ⟨l, e⟩ := L
  simp only at hX hl1 hl2
  unfold PC
  refine ACalls.sub (R := fun r H' => r = readTV X) ?_ (fun r H' hr _ => ⟨[], HSub.of_sub (List.nil_sublist _), hr, rfl⟩)
  refine ACalls.of_vc laid mixed Tryz.func49 rfl (by kernel_rfl) cfRd (by simp [Tryz.ntmps49]) fun imm0 w0 => ?_
  (simp (maxSteps := 2000000) (disch := first | omega | assumption) [zz])
  refine callV_pc htx rfl rfl (by simp) (by simp [argLe, TV.er, AV.er]) ?_
  by_cases he : e = 0
  rotate_left
  · rw [if_neg he] at hX
    (simp (maxSteps := 2000000) (disch := first | omega | assumption) [zz, textsTV, he])
    (simp (maxSteps := 2000000) (disch := first | omega | assumption) [zz, Tryz.f49, ← hX, readTV, tr0, encTrace, encReads, encMades, encD_zero])
  subst he
  rw [if_pos rfl] at hX
  (simp (maxSteps := 2000000) (disch := first | omega | assumption) [zz, textsTV])
  intro B
  replace hl2 : l.length ≤ 1000000000 := by omega
  replace hl1 : ∀ x ∈ l, x.length ≤ 1000000000 := fun x hx => Nat.le_trans (hl1 x hx) hb
  unfold readP at hX
  simp only at hX
  have hk := cdigest_ok B l false hl2 hl1
  have hks := cD_sub l false
  obtain ⟨K, hK⟩ : ∃ K, cD l false = K := ⟨_, rfl⟩
  rw [hK] at hk hks hX
  obtain ⟨kd, l1, b1⟩ := K
  simp only at hk hks hX
  have hn := cnumber_ok B l1 b1 (by omega) (fun x hx => hl1 x (hks.2 x hx))
  have hns := cN_sub l1 b1
  obtain ⟨N, hN⟩ : ∃ N, cN l1 b1 = N := ⟨_, rfl⟩
  rw [hN] at hn hns hX
  obtain ⟨n, l2, b2⟩ := N
  simp only at hn hns hX
  obtain ⟨m, rfl⟩ : ∃ m : Nat, n = (m : Int) := ⟨n.toNat, by omega⟩
  simp only [Int.toNat_natCast] at hX
  obtain ⟨RR, hRR⟩ : ∃ RR, pR m l2 b2 = RR := ⟨_, rfl⟩
  rw [hRR] at hX
  have hm2 : ∀ x ∈ l2, x.length ≤ 1000000000 := fun x hx => hl1 x (hks.2 x (hns.2.1 x hx))
  refine callV_bm (R := fun r H' => r = .av (tyOf Tryz.prog 30) (encD kd) ∧ H' = curO B l1 b1) (curO B l false) [] (by simp [curO]) rfl (by simp) (by simp) ?_ ?_
  · simpa [TV.er, AV.er] using hk
  rintro r H' ⟨rfl, rfl⟩ _
  refine ⟨_, HSub.refl _, ?_⟩
  (simp (maxSteps := 2000000) (disch := first | omega | assumption) [zz, curO])
  refine callV_bm (R := fun r H' => r = .av (.int .i64) (.i .i64 m) ∧ H' = curO B l2 b2) (curO B l1 b1) [] (by simp [curO]) rfl (by simp) (by simp) ?_ ?_
  · simpa [TV.er, AV.er] using hn
  rintro r H' ⟨rfl, rfl⟩ _
  refine ⟨_, HSub.refl _, ?_⟩
  (simp (maxSteps := 2000000) (disch := first | omega | assumption) [zz, curO])
  refine AT.loop' (α := Nat × List Read × List (List UInt8) × Bool) (fun x => St.of [(2, .loc 2 []), (6, .av .ptr (.ptr B CurT [])), (7, .av .func (.bm 81 [.ptr B CurT []])), (9, .loc 9 []), (31, .av (.int .i64) (.i .i64 m)), (32, .av (.int .i64) (.i .i64 x.1))] [(2, (tyOf Tryz.prog 34, .agg [encD zero32, .sl .full [], .sl .full []])), (9, (tyOf Tryz.prog 34, .agg [encD kd, .sl (tkR 39 x.1) (x.2.1.map encRead), .sl .full []]))] (fun j => if j = 39 then x.1 else 0) (curO B x.2.2.1 x.2.2.2))
    (fun x => x.1 ≤ m ∧ x.2.1.length = x.1 ∧ (x.2.1 ++ (pR (m - x.1) x.2.2.1 x.2.2.2).1, (pR (m - x.1) x.2.2.1 x.2.2.2).2) = RR ∧ x.2.2.1.length ≤ l2.length ∧ ∀ y ∈ x.2.2.1, y ∈ l2) (fun x => m - x.1) (0, [], l2, b2) ?_ ?_ ?_
  · refine Le.of ?_ ?_ ?_ ?_ ?_ <;> simp [leTV, locsIn, encDigs, encTraces, encWant, encTrace, encReads, encRead, encMades, encMade, encD_zero, tkR, curO] <;> try omega
  · exact ⟨by simp, rfl, by simp [hRR], by simp, fun y hy => hy⟩
  rintro ⟨i, acc, lc, bc⟩ ⟨hi, hacc, hpr, hlc, hmc⟩ KL hNx hE
  simp only at hi hacc hpr hlc hmc hNx
  refine vc_sound (cf := cfRd) laid mixed _ _ _ (by kernel_rfl) ?_
  by_cases hlt : i < m
  · have hrd := cread_ok B lc bc (by omega) (fun x hx => hm2 x (hmc x hx))
    have hrs := cR_sub lc bc
    have hmi : m - i = (m - (i+1)) + 1 := by omega
    rw [hmi] at hpr
    unfold pR at hpr
    obtain ⟨C, hC⟩ : ∃ C, cR lc bc = C := ⟨_, rfl⟩
    rw [hC] at hrd hrs hpr
    obtain ⟨rd, l3, b3⟩ := C
    simp only at hrd hrs hpr
    cases i with
    | zero =>
      have hlt' : (0 : Int) < m := by omega
      obtain rfl := List.length_eq_zero_iff.1 hacc
      (simp (maxSteps := 2000000) (disch := first | omega | assumption) [zz, hlt', hlt, tkR])
      refine vcSoft.of [0, 1, 2, 3, 4, 5, 6, 7] [0, 1] (by kernel_rfl) ?_
      (simp (maxSteps := 2000000) (disch := first | omega | assumption) [zz])
      (repeat ((with_reducible refine And.intro ?_ ?_); (· first | omega | (show barB _ _ = true; kernel_rfl) | (show rdJ _ _ _ _ _ = true; kernel_rfl) | (show tailB _ _ _ = true; kernel_rfl) | (show sftB _ _ _ = true; kernel_rfl))))
      refine callV_all (R := fun r H' => r = .av (tyOf Tryz.prog 59) (encRead rd) ∧ H' = curO B l3 b3) rfl (by simp [argOK]) (by simp) ?_ ?_
      · simpa [TV.er, AV.er] using hrd
      rintro r H' ⟨rfl, rfl⟩
      (simp (maxSteps := 2000000) (disch := first | omega | assumption) [zz, appendV, curO])
      (repeat ((with_reducible refine And.intro ?_ ?_); (· first | omega | (show barB _ _ = true; kernel_rfl) | (show rdJ _ _ _ _ _ = true; kernel_rfl) | (show tailB _ _ _ = true; kernel_rfl) | (show sftB _ _ _ = true; kernel_rfl))))
      refine hNx _ (1, [rd], l3, b3) ?_ ⟨by simp only; omega, rfl, by simpa using hpr, by simp only; omega, fun y hy => hmc y (hrs.2 y hy)⟩ (by simp only; omega)
      refine Le.of ?_ ?_ ?_ ?_ ?_ <;> simp [leTV, locsIn, encDigs, encTraces, encWant, encTrace, encReads, encRead, encMades, encMade, tkR, curO] <;> try omega
    | succ i =>
      have hlt' : (i : Int) + 1 < m := by omega
      have hge : (0 : Int) ≤ (i : Int) + 1 := by omega
      (simp (maxSteps := 2000000) (disch := first | omega | assumption) [zz, hlt', hlt, tkR])
      refine vcSoft.of [0, 1, 2, 3, 4, 5, 6, 7] [0, 1] (by kernel_rfl) ?_
      (simp (maxSteps := 2000000) (disch := first | omega | assumption) [zz])
      (repeat ((with_reducible refine And.intro ?_ ?_); (· first | omega | (show barB _ _ = true; kernel_rfl) | (show rdJ _ _ _ _ _ = true; kernel_rfl) | (show tailB _ _ _ = true; kernel_rfl) | (show sftB _ _ _ = true; kernel_rfl))))
      refine callV_all (R := fun r H' => r = .av (tyOf Tryz.prog 59) (encRead rd) ∧ H' = curO B l3 b3) rfl (by simp [argOK]) (by simp) ?_ ?_
      · simpa [TV.er, AV.er] using hrd
      rintro r H' ⟨rfl, rfl⟩
      (simp (maxSteps := 2000000) (disch := first | omega | assumption) [zz, appendV, curO, hacc])
      (repeat ((with_reducible refine And.intro ?_ ?_); (· first | omega | (show barB _ _ = true; kernel_rfl) | (show rdJ _ _ _ _ _ = true; kernel_rfl) | (show tailB _ _ _ = true; kernel_rfl) | (show sftB _ _ _ = true; kernel_rfl))))
      refine hNx _ (i + 2, acc ++ [rd], l3, b3) ?_ ⟨by simp only; omega, by simp; omega, by simpa using hpr, by simp only; omega, fun y hy => hmc y (hrs.2 y hy)⟩ (by simp only; omega)
      refine Le.of ?_ ?_ ?_ ?_ ?_ <;> simp [leTV, locsIn, encDigs, encTraces, encWant, encTrace, encReads, encRead, encMades, encMade, tkR, curO] <;> try omega
      all_goals (intro j; by_cases hj : j = 39 <;> simp [hj])
  have hin : i = m := by omega
  have hlt' : ¬ (i : Int) < m := by omega
  rw [hin, Nat.sub_self] at hpr
  simp only [pR, List.append_nil] at hpr
  (simp (maxSteps := 2000000) (disch := first | omega | assumption) [zz, hlt'])
  refine hE _ _ (by simp) ?_
  clear hNx hE
  subst hpr
  simp only at hX
  obtain ⟨MM, hMM⟩ : ∃ MM, pM (l.length + 1) lc bc = MM := ⟨_, rfl⟩
  rw [hMM] at hX
  (simp (maxSteps := 2000000) (disch := first | omega | assumption) [zz])
  refine AT.loop' (α := Nat × List Made × List (List UInt8) × Bool × Nat) (fun x => St.of [(2, .loc 2 []), (6, .av .ptr (.ptr B CurT [])), (7, .av .func (.bm 81 [.ptr B CurT []])), (9, .loc 9 [])] [(2, (tyOf Tryz.prog 34, .agg [encD zero32, .sl .full [], .sl .full []])), (9, (tyOf Tryz.prog 34, .agg [encD kd, .sl (tkR 39 i) (acc.map encRead), .sl (tkR 63 x.1) (x.2.1.map encMade)]))] (fun j => if j = 63 then x.1 else if j = 39 then i else 0) (curO B x.2.2.1 x.2.2.2.1))
    (fun x => x.2.1.length = x.1 ∧ (x.2.1 ++ (pM x.2.2.2.2 x.2.2.1 x.2.2.2.1).1, (pM x.2.2.2.2 x.2.2.1 x.2.2.2.1).2) = MM ∧ x.2.2.1.length < x.2.2.2.2 ∧ x.1 + x.2.2.1.length ≤ l.length ∧ ∀ y ∈ x.2.2.1, y ∈ l2) (fun x => x.2.2.2.2) (0, [], lc, bc, l.length + 1) ?_ ?_ ?_
  · refine Le.of ?_ ?_ ?_ ?_ ?_ <;> simp [leTV, locsIn, encDigs, encTraces, encWant, encTrace, encReads, encRead, encMades, encMade, encD_zero, tkR, curO] <;> try omega
    all_goals (intro j; by_cases hj : j = 63 <;> simp [hj])
  · exact ⟨rfl, by simp [hMM], by simp only; omega, by simp only; omega, hmc⟩
  rintro ⟨i2, acc2, lw, bw, f⟩ ⟨hacc2, hpm, hlw, hi2, hmw⟩ KL2 hNx hE
  simp only at hacc2 hpm hlw hi2 hmw hNx
  refine vc_sound (cf := cfRd) laid mixed _ _ _ (by kernel_rfl) ?_
  cases f with
  | zero => omega
  | succ f =>
  unfold pM at hpm
  by_cases hst : lw = [] ∨ bw = true
  · rw [if_pos hst] at hpm
    simp only [List.append_nil] at hpm
    subst hpm
    cases bw with
    | true =>
      rw [if_pos rfl] at hX
      cases lw with
      | nil =>
        (simp (maxSteps := 2000000) (disch := first | omega | assumption) [zz, curO, strs'])
        refine hE _ _ (by simp) ?_
        (simp (maxSteps := 2000000) (disch := first | omega | assumption) [zz, curO])
        (simp (maxSteps := 2000000) (disch := first | omega | assumption) [zz, Tryz.f49, ← hX, readTV, tr0, encTrace, encReads, encMades, encD_zero])
      | cons s r =>
        have hpos : (0 : Int) < (r.length : Int) + 1 := by omega
        (simp (maxSteps := 2000000) (disch := first | omega | assumption) [zz, curO, strs', hpos])
        refine hE _ _ (by simp) ?_
        (simp (maxSteps := 2000000) (disch := first | omega | assumption) [zz, curO])
        (simp (maxSteps := 2000000) (disch := first | omega | assumption) [zz, Tryz.f49, ← hX, readTV, tr0, encTrace, encReads, encMades, encD_zero])
    | false =>
      rw [if_neg (by simp)] at hX
      have hlw0 : lw = [] := by rcases hst with h | h; exact h; cases h
      subst hlw0
      have htp : TrP ⟨kd, acc, acc2⟩ := by
        have p1 := pR_path m l2 b2 hm2
        rw [hRR] at p1
        have p2 := pM_path (l.length + 1) lc bc (fun x hx => hm2 x (hmc x hx))
        rw [hMM] at p2
        exact ⟨⟨by simp only; omega, fun r hr => Nat.le_trans (p1 r hr) (by decide)⟩, by simp only; omega, fun r hr => Nat.le_trans (p2 r hr) (by decide)⟩
      (simp (maxSteps := 2000000) (disch := first | omega | assumption) [zz, curO, strs'])
      refine hE _ _ (by simp) ?_
      (simp (maxSteps := 2000000) (disch := first | omega | assumption) [zz, curO])
      refine callV_pc (check_ok _ htp) rfl rfl (by simp) (by simp [argLe, TV.er, encTrace, AV.er, AV.ers, AV.ers_eq, encReads, encMades, List.map_map, Function.comp_def]) ?_
      unfold chkT at hX
      by_cases hc : checkV ⟨kd, acc, acc2⟩ = 0
      · rw [if_pos hc] at hX
        (simp (maxSteps := 2000000) (disch := first | omega | assumption) [zz, hc])
        (simp (maxSteps := 2000000) (disch := first | omega | assumption) [zz, Tryz.f49, ← hX, readTV, encTrace, encReads, encMades, AV.ers_eq, Function.comp_def])
      · rw [if_neg hc] at hX
        (simp (maxSteps := 2000000) (disch := first | omega | assumption) [zz, hc])
        (simp (maxSteps := 2000000) (disch := first | omega | assumption) [zz, Tryz.f49, ← hX, readTV, tr0, encTrace, encReads, encMades, encD_zero])
  rw [if_neg hst] at hpm
  have hbf : bw = false := by cases bw with | false => rfl | true => exact absurd (.inr rfl) hst
  subst hbf
  cases lw with
  | nil => exact absurd (.inl rfl) hst
  | cons s r =>
  simp only [cT] at hpm
  have hpos : (0 : Int) < (r.length : Int) + 1 := by omega
  have hrm : ∀ x ∈ r, x.length ≤ 1000000000 := fun x hx => hm2 x (hmw x (by simp [hx]))
  have hlr : r.length < f := by simp at hlw; omega
  have hi2r : i2 + (r.length + 1) ≤ l.length := by simpa using hi2
  have htxt := ctext_ok B (s :: r) false (by simp; omega)
  simp only [cT] at htxt
  have hdg := cdigest_ok B r false (by omega) hrm
  have hds := cD_sub r false
  obtain ⟨D, hD⟩ : ∃ D, cD r false = D := ⟨_, rfl⟩
  rw [hD] at hdg hds hpm
  obtain ⟨d1, d2, d3⟩ := D
  simp only at hdg hds hpm
  cases i2 with
  | zero =>
    obtain rfl := List.length_eq_zero_iff.1 hacc2
    (simp (maxSteps := 2000000) (disch := first | omega | assumption) [zz, curO, strs', hpos, tkR])
    refine vcSoft.of [0, 1, 2, 4, 3, 5, 6, 7, 8, 9, 10] [0, 1, 4] (by kernel_rfl) ?_
    (simp (maxSteps := 2000000) (disch := first | omega | assumption) [zz])
    (repeat ((with_reducible refine And.intro ?_ ?_); (· first | omega | (show barB _ _ = true; kernel_rfl) | (show rdJ _ _ _ _ _ = true; kernel_rfl) | (show tailB _ _ _ = true; kernel_rfl) | (show sftB _ _ _ = true; kernel_rfl))))
    refine callV_all (R := fun r' H' => r' = .av .str (.s s) ∧ H' = curO B r false) rfl (by simp [argOK]) (by simp) ?_ ?_
    · simpa [TV.er, AV.er, curO, strs', AV.ers_eq, AV.erk, AV.erks, AV.erks_eq, Function.comp_def, Heap.er_cons, Heap.er_nil, HObj.er_var, Tok.k] using htxt
    rintro r' H' ⟨rfl, rfl⟩
    (simp (maxSteps := 2000000) (disch := first | omega | assumption) [zz])
    (repeat ((with_reducible refine And.intro ?_ ?_); (· first | omega | (show barB _ _ = true; kernel_rfl) | (show rdJ _ _ _ _ _ = true; kernel_rfl) | (show tailB _ _ _ = true; kernel_rfl) | (show sftB _ _ _ = true; kernel_rfl))))
    refine callV_bm (R := fun r' H' => r' = .av (tyOf Tryz.prog 30) (encD d1) ∧ H' = curO B d2 d3) (curO B r false) [] (by simp) rfl (by simp) (by simp) ?_ ?_
    · simpa [TV.er, AV.er] using hdg
    rintro r' H' ⟨rfl, rfl⟩ _
    refine ⟨_, HSub.refl _, ?_⟩
    (simp (maxSteps := 2000000) (disch := first | omega | assumption) [zz, appendV, curO])
    (repeat ((with_reducible refine And.intro ?_ ?_); (· first | omega | (show barB _ _ = true; kernel_rfl) | (show rdJ _ _ _ _ _ = true; kernel_rfl) | (show tailB _ _ _ = true; kernel_rfl) | (show sftB _ _ _ = true; kernel_rfl))))
    refine hNx _ (1, [⟨s, d1⟩], d2, d3, f) ?_ ⟨rfl, by simpa using hpm, by simp only; omega, by simp only; omega, fun y hy => hmw y (by simp [hds.2 y hy])⟩ (by simp only; omega)
    refine Le.of ?_ ?_ ?_ ?_ ?_ <;> simp [leTV, locsIn, encDigs, encTraces, encWant, encTrace, encReads, encRead, encMades, encMade, tkR, curO] <;> try omega
    all_goals (intro j; by_cases hj : j = 63 <;> simp [hj])
  | succ i2 =>
    (simp (maxSteps := 2000000) (disch := first | omega | assumption) [zz, curO, strs', hpos, tkR])
    refine vcSoft.of [0, 1, 2, 4, 3, 5, 6, 7, 8, 9, 10] [0, 1, 4] (by kernel_rfl) ?_
    (simp (maxSteps := 2000000) (disch := first | omega | assumption) [zz])
    (repeat ((with_reducible refine And.intro ?_ ?_); (· first | omega | (show barB _ _ = true; kernel_rfl) | (show rdJ _ _ _ _ _ = true; kernel_rfl) | (show tailB _ _ _ = true; kernel_rfl) | (show sftB _ _ _ = true; kernel_rfl))))
    refine callV_all (R := fun r' H' => r' = .av .str (.s s) ∧ H' = curO B r false) rfl (by simp [argOK]) (by simp) ?_ ?_
    · simpa [TV.er, AV.er, curO, strs', AV.ers_eq, AV.erk, AV.erks, AV.erks_eq, Function.comp_def, Heap.er_cons, Heap.er_nil, HObj.er_var, Tok.k] using htxt
    rintro r' H' ⟨rfl, rfl⟩
    (simp (maxSteps := 2000000) (disch := first | omega | assumption) [zz])
    (repeat ((with_reducible refine And.intro ?_ ?_); (· first | omega | (show barB _ _ = true; kernel_rfl) | (show rdJ _ _ _ _ _ = true; kernel_rfl) | (show tailB _ _ _ = true; kernel_rfl) | (show sftB _ _ _ = true; kernel_rfl))))
    refine callV_bm (R := fun r' H' => r' = .av (tyOf Tryz.prog 30) (encD d1) ∧ H' = curO B d2 d3) (curO B r false) [] (by simp) rfl (by simp) (by simp) ?_ ?_
    · simpa [TV.er, AV.er] using hdg
    rintro r' H' ⟨rfl, rfl⟩ _
    refine ⟨_, HSub.refl _, ?_⟩
    (simp (maxSteps := 2000000) (disch := first | omega | assumption) [zz, appendV, curO, hacc2])
    (repeat ((with_reducible refine And.intro ?_ ?_); (· first | omega | (show barB _ _ = true; kernel_rfl) | (show rdJ _ _ _ _ _ = true; kernel_rfl) | (show tailB _ _ _ = true; kernel_rfl) | (show sftB _ _ _ = true; kernel_rfl))))
    refine hNx _ (i2 + 2, acc2 ++ [⟨s, d1⟩], d2, d3, f) ?_ ⟨by simp; omega, by simpa using hpm, by simp only; omega, by simp only; omega, fun y hy => hmw y (by simp [hds.2 y hy])⟩ (by simp only; omega)
    refine Le.of ?_ ?_ ?_ ?_ ?_ <;> simp [leTV, locsIn, encDigs, encTraces, encWant, encTrace, encReads, encRead, encMades, encMade, tkR, curO] <;> try omega
    all_goals (intro j; by_cases hj : j = 63 <;> simp [hj])
end Go.Proofs.YthdgnfnalimcnaaGreatDoor
