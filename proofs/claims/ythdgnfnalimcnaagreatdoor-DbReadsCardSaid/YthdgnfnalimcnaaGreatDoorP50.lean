/- A trace of bytes: the document. No condition beyond each theorem's own. -/
import Derived.Test.YthdgnfnalimcnaaGreatDoorP49ToP44
import Derived.Test.YthdgnfnalimcnaaGreatDoorP17ToPD
set_option linter.unusedSimpArgs false
set_option linter.unusedVariables false
set_option linter.unusedSectionVars false
set_option maxRecDepth 100000
/-! A trace of bytes: the document. -/
namespace Go.Proofs.YthdgnfnalimcnaaGreatDoor
open Go Go.Ab
open Classical
variable [Sel] [SelPow] [SelErr]

@[simp] theorem fnok87 : fnOK Tryz.prog 87 = true := by kernel_rfl
@[simp] theorem isne87 : isNE Tryz.prog (.func 87) = false := isNE_func fnok87
@[simp] theorem fnok53 : fnOK Tryz.prog 53 = true := by kernel_rfl
@[simp] theorem isne53 : isNE Tryz.prog (.func 53) = false := isNE_func fnok53
noncomputable def rdigTV (s : List UInt8) : TV := .tup [(tyOf Tryz.prog 30, encD (if s.length = 32 then s else zero32)), (.bool, .b (decide (s.length = 32)))]
set_option maxHeartbeats 4000000 in
theorem rdigest_ok (s : List UInt8) (hs : s.length ≤ 1000000000) : PC Tryz.prog 87 [.av .str (.s s)] (rdigTV s) := by
  refine PC.of <| ACalls.of_vc laid mixed Tryz.func87 rfl (by kernel_rfl) cf0 (by simp [Tryz.ntmps87]) fun imm0 w0 => ?_
  by_cases h32 : s.length = 32
  rotate_left
  · have h32' : ¬ (s.length : Int) = 32 := by omega
    (simp (maxSteps := 2000000) (disch := first | omega | assumption) [zz, h32', Tryz.f87, rdigTV, h32, encD_zero])
  have h32' : (s.length : Int) = 32 := by omega
  (simp (maxSteps := 2000000) (disch := first | omega | assumption) [zz, h32, h32'])
  refine AT.loop' (α := Nat) (fun k => St.of [(0, .av .str (.s s)), (2, .loc 2 []), (4, .loc 4 []), (5, .av (.int .i64) (.i .i64 k))] [(2, (tyOf Tryz.prog 30, encD zero32)), (4, (tyOf Tryz.prog 30, encD (s.take k ++ List.replicate (32 - k) 0)))] (fun _ => 0) [])
    (fun k => k ≤ 32) (fun k => 32 - k) 0 ?_ ?_ ?_
  · refine Le.of ?_ ?_ ?_ ?_ ?_ <;> simp [leTV, locsIn, encDigs, encTraces, encWant, encTrace, encReads, encRead, encMades, encMade, encD, zero32] <;> try omega
  · simp
  rintro k hk KL hN hE
  refine vc_sound (cf := cf0) laid mixed _ _ _ (by kernel_rfl) ?_
  by_cases hlt : k < 32
  · have hlt' : (k : Int) < 32 := by omega
    have hks : k < s.length := by omega
    have hst : (s.take k ++ List.replicate (32 - k) 0).set k s[k] = s.take (k+1) ++ List.replicate (32 - (k+1)) 0 := by
      have e : (s.take k).length = k := by rw [List.length_take]; omega
      rw [List.set_append_right _ _ (by omega), e, Nat.sub_self, show 32 - k = (32 - (k+1)) + 1 by omega, List.replicate_succ, List.set_cons_zero, List.take_succ_eq_append_getElem hks, List.append_assoc]
      rfl
    obtain ⟨c, hc⟩ : ∃ c, s[k] = c := ⟨_, rfl⟩
    rw [hc] at hst
    have hlen : (s.take k ++ List.replicate (32 - k) 0).length = 32 := by simp; omega
    obtain ⟨w, hw⟩ : ∃ w, s.take k ++ List.replicate (32 - k) 0 = w := ⟨_, rfl⟩
    rw [hw] at hst hlen ⊢
    have hst2 : (w.map fun b : UInt8 => AV.i .u8 b.toNat).set k (.i .u8 c.toNat) = (s.take (k+1) ++ List.replicate (32 - (k+1)) 0).map fun b : UInt8 => AV.i .u8 b.toNat := by
      rw [← hst, List.map_set]
    (simp (maxSteps := 2000000) (disch := first | omega | assumption) [zz, hlt', hlt, hks, hc, encD, hlen])
    refine hN _ (k+1) ?_ (by omega) (by omega)
    rw [hst2]
    refine Le.of ?_ ?_ ?_ ?_ ?_ <;> simp [leTV, locsIn, encDigs, encTraces, encWant, encTrace, encReads, encRead, encMades, encMade, encD] <;> try omega
  have hk32 : k = 32 := by omega
  subst hk32
  (simp (maxSteps := 2000000) (disch := first | omega | assumption) [zz])
  refine hE _ _ (by simp) ?_
  have htk : s.take 32 = s := List.take_of_length_le (by omega)
  (simp (maxSteps := 2000000) (disch := first | omega | assumption) [zz, Tryz.f87, rdigTV, h32, htk, encD, AV.ers_eq, Function.comp_def])
theorem rG_nil (n : Nat) : rG n [] = some ([], []) := by cases n <;> rfl
theorem rG_path : ∀ (m : Nat) {n : Nat} {l : List (List UInt8)} {x : List Read × List Made}, l.length ≤ m → rG n l = some x → (∀ y ∈ l, y.length ≤ 1000000000) → (∀ y ∈ x.1, y.path.length ≤ 1000000000) ∧ ∀ y ∈ x.2, y.path.length ≤ 1000000000
  | m, n, [], x, _, h, _ => by rw [rG_nil] at h; cases h; simp
  | m, n, [p], x, _, h, _ => by cases n <;> simp [rG] at h <;> subst h <;> simp
  | 0, n, p :: s :: r, x, hm, h, hb => by simp at hm
  | m + 1, 0, p :: s :: r, x, hm, h, hb => by
    unfold rG at h
    split at h
    · obtain ⟨y, hy, rfl⟩ := Option.map_eq_some_iff.1 h
      obtain ⟨h1, h2⟩ := rG_path m (by simp at hm; omega) hy (fun z hz => hb z (by simp [hz]))
      refine ⟨h1, fun z hz => ?_⟩
      rcases List.mem_cons.1 hz with rfl | hz
      · exact hb p (by simp)
      · exact h2 z hz
    · cases h
  | m + 1, n + 1, p :: s :: r, x, hm, h, hb => by
    unfold rG at h
    split at h
    · obtain ⟨y, hy, rfl⟩ := Option.map_eq_some_iff.1 h
      obtain ⟨h1, h2⟩ := rG_path m (by simp at hm; omega) hy (fun z hz => hb z (by simp [hz]))
      refine ⟨fun z hz => ?_, h2⟩
      rcases List.mem_cons.1 hz with rfl | hz
      · exact hb p (by simp)
      · exact h1 z hz
    · split at h
      · obtain ⟨y, hy, rfl⟩ := Option.map_eq_some_iff.1 h
        obtain ⟨h1, h2⟩ := rG_path m (by simp at hm; omega) hy (fun z hz => hb z (by simp [hz]))
        refine ⟨fun z hz => ?_, h2⟩
        rcases List.mem_cons.1 hz with rfl | hz
        · exact hb p (by simp)
        · exact h1 z hz
      · cases h
abbrev cfRR : Cfg := ⟨fun _ => false, fun n => n == 124 || n == 135⟩
set_option maxHeartbeats 16000000 in
theorem rread_ok (b : List UInt8) (hb : b.length ≤ 1000000000) : PC Tryz.prog 53 [.av .str (.s b)] (readTV (readV b)) := by
  obtain ⟨hl1, hl2⟩ := texts_le b
  obtain ⟨X, hX⟩ : ∃ X, readV b = X := ⟨_, rfl⟩
  rw [hX]
  unfold readV at hX
  have htx := rtexts_ok b hb
  obtain ⟨L, hL⟩ : ∃ L, textsV b = L := ⟨_, rfl⟩
  rw [hL] at hX htx hl1 hl2
  obtain ⟨l, e⟩ := L
  simp only at hX hl1 hl2
  replace hl2 : l.length ≤ 1000000000 := by omega
  replace hl1 : ∀ x ∈ l, x.length ≤ 1000000000 := fun x hx => Nat.le_trans (hl1 x hx) hb
  refine PC.of <| ACalls.of_vc laid mixed Tryz.func53 rfl (by kernel_rfl) cfRR (by simp [Tryz.ntmps53]) fun imm0 w0 => ?_
  (simp (maxSteps := 2000000) (disch := first | omega | assumption) [zz])
  refine callV_pc htx rfl rfl (by simp) (by simp [argLe, TV.er, AV.er]) ?_
  by_cases he : e = 0
  rotate_left
  · rw [if_neg he] at hX
    (simp (maxSteps := 2000000) (disch := first | omega | assumption) [zz, textsTV, he])
    (simp (maxSteps := 2000000) (disch := first | omega | assumption) [zz, Tryz.f53, ← hX, readTV, tr0, encTrace, encReads, encMades, encD_zero])
  subst he
  rw [if_pos rfl, readP_G] at hX
  match l, hl1, hl2, hX with
  | [], _, _, hX =>
    simp only [readG] at hX
    (simp (maxSteps := 2000000) (disch := first | omega | assumption) [zz, textsTV, strs'])
    (simp (maxSteps := 2000000) (disch := first | omega | assumption) [zz, Tryz.f53, ← hX, readTV, tr0, encTrace, encReads, encMades, encD_zero])
  | [k], _, _, hX =>
    simp only [readG] at hX
    (simp (maxSteps := 2000000) (disch := first | omega | assumption) [zz, textsTV, strs'])
    (simp (maxSteps := 2000000) (disch := first | omega | assumption) [zz, Tryz.f53, ← hX, readTV, tr0, encTrace, encReads, encMades, encD_zero])
  | k :: c :: r, hl1, hl2, hX =>
    have hk := hl1 k (by simp)
    have hc := hl1 c (by simp)
    have hrm : ∀ x ∈ r, x.length ≤ 1000000000 := fun x hx => hl1 x (by simp [hx])
    have hrl : r.length ≤ 1000000000 := by simp at hl2; omega
    have h2 : ¬ (r.length : Int) + 1 + 1 < 2 := by omega
    have hm : ((r.length : Int) + 1 + 1).tmod 2 = ((r.length % 2 : Nat) : Int) := by
      rw [Int.tmod_eq_emod_of_nonneg (by omega)]; omega
    simp only [readG] at hX
    by_cases ho : r.length % 2 = 1
    · rw [if_pos (.inl ho)] at hX
      (simp (maxSteps := 2000000) (disch := first | omega | assumption) [zz, textsTV, strs', h2, hm, ho])
      (simp (maxSteps := 2000000) (disch := first | omega | assumption) [zz, Tryz.f53, ← hX, readTV, tr0, encTrace, encReads, encMades, encD_zero])
    have ho0 : r.length % 2 = 0 := by omega
    (simp (maxSteps := 2000000) (disch := first | omega | assumption) [zz, textsTV, strs', h2, hm, ho0])
    refine ⟨by omega, ?_⟩
    refine callV_pc (rdigest_ok k hk) rfl rfl (by simp) (by simp [argLe, TV.er, AV.er]) ?_
    have hfin : ∀ {x : Trace × Int}, x = (tr0, 3) → readTV x = .tup [(tyOf Tryz.prog 34, .agg [.agg (List.replicate 32 (.i .u8 0)), .sl .no [], .sl .no []]), (.int .i64, .i .i64 3)] := by
      rintro x rfl
      simp only [readTV, tr0, encTrace, encReads, encMades, encD_zero, List.map_nil]
    cases hi : intV c with
    | none =>
      rw [hi] at hX
      have hX3 : X = (tr0, 3) := by rw [← hX]; split <;> rfl
      have hf := hfin hX3
      by_cases h32 : k.length = 32
      · (simp (maxSteps := 2000000) (disch := first | omega | assumption) [zz, rdigTV, h32])
        refine ⟨by omega, ?_⟩
        refine callV_pc (rint_ok c hc) rfl rfl (by simp) (by simp [argLe, TV.er, AV.er]) ?_
        (simp (maxSteps := 2000000) (disch := first | omega | assumption) [zz, hi, intTV])
        (simp (maxSteps := 2000000) (disch := first | omega | assumption) [zz, Tryz.f53, hf])
      · (simp (maxSteps := 2000000) (disch := first | omega | assumption) [zz, rdigTV, h32])
        refine ⟨by omega, ?_⟩
        refine callV_pc (rint_ok c hc) rfl rfl (by simp) (by simp [argLe, TV.er, AV.er]) ?_
        (simp (maxSteps := 2000000) (disch := first | omega | assumption) [zz, hi, intTV])
        (simp (maxSteps := 2000000) (disch := first | omega | assumption) [zz, Tryz.f53, hf])
    | some n =>
    rw [hi] at hX
    simp only at hX
    by_cases h32 : k.length = 32
    rotate_left
    · have hX3 : X = (tr0, 3) := by rw [← hX, if_pos (.inr h32)]
      have hf := hfin hX3
      (simp (maxSteps := 2000000) (disch := first | omega | assumption) [zz, rdigTV, h32])
      refine ⟨by omega, ?_⟩
      refine callV_pc (rint_ok c hc) rfl rfl (by simp) (by simp [argLe, TV.er, AV.er]) ?_
      (simp (maxSteps := 2000000) (disch := first | omega | assumption) [zz, hi, intTV])
      (simp (maxSteps := 2000000) (disch := first | omega | assumption) [zz, Tryz.f53, hf])
    rw [if_neg (by omega)] at hX
    (simp (maxSteps := 2000000) (disch := first | omega | assumption) [zz, rdigTV, h32])
    refine ⟨by omega, ?_⟩
    refine callV_pc (rint_ok c hc) rfl rfl (by simp) (by simp [argLe, TV.er, AV.er]) ?_
    by_cases hn0 : n < 0
    · have hX3 : X = (tr0, 3) := by rw [← hX, if_pos (.inl hn0)]
      have hf := hfin hX3
      (simp (maxSteps := 2000000) (disch := first | omega | assumption) [zz, hi, intTV, hn0])
      (simp (maxSteps := 2000000) (disch := first | omega | assumption) [zz, Tryz.f53, hf])
    by_cases hn1 : (r.length : Int) + 1 + 1 < n
    · have hX3 : X = (tr0, 3) := by rw [← hX, if_pos (.inr (by omega))]
      have hf := hfin hX3
      (simp (maxSteps := 2000000) (disch := first | omega | assumption) [zz, hi, intTV, hn0, hn1])
      (simp (maxSteps := 2000000) (disch := first | omega | assumption) [zz, Tryz.f53, hf])
    by_cases hn2 : (r.length : Int) + 1 + 1 < 2 + 2 * n
    · have hX3 : X = (tr0, 3) := by rw [← hX, if_pos (.inr (by omega))]
      have hf := hfin hX3
      (simp (maxSteps := 2000000) (disch := first | omega | assumption) [zz, hi, intTV, hn0, hn1, hn2])
      (simp (maxSteps := 2000000) (disch := first | omega | assumption) [zz, Tryz.f53, hf])
    rw [if_neg (by omega)] at hX
    obtain ⟨m, rfl⟩ : ∃ m : Nat, n = (m : Int) := ⟨n.toNat, by omega⟩
    simp only [Int.toNat_natCast] at hX
    (simp (maxSteps := 2000000) (disch := first | omega | assumption) [zz, hi, intTV, hn0, hn1, hn2])
    obtain ⟨G, hG0⟩ : ∃ G, rG m r = G := ⟨_, rfl⟩
    rw [hG0] at hX
    obtain ⟨L, hLd⟩ : ∃ L, L = k :: c :: r := ⟨_, rfl⟩
    have hLl : L.length = r.length + 2 := by rw [hLd]; rfl
    refine AT.loop' (α := Nat × List Read × List Made × List (List UInt8) × Nat) (fun x => St.of [(2, .loc 2 []), (4, .av (.slice 9) (.sl .no (strs' L))), (6, .loc 6 []), (9, .av (.int .i64) (.i .i64 m)), (11, .loc 11 []), (12, .av (.int .i64) (.i .i64 x.2.2.2.2))] [(2, (tyOf Tryz.prog 34, .agg [encD zero32, .sl .full [], .sl .full []])), (6, (tyOf Tryz.prog 34, .agg [encD zero32, .sl .full [], .sl .full []])), (11, (tyOf Tryz.prog 34, .agg [encD k, .sl (tkR 123 x.2.1.length) (x.2.1.map encRead), .sl (tkR 134 x.2.2.1.length) (x.2.2.1.map encMade)]))] (fun y => if y = 123 then x.2.1.length else if y = 134 then x.2.2.1.length else 0) [])
      (fun x => x.2.2.2.2 = 2 + 2 * x.1 ∧ x.2.2.2.1 = r.drop (2 * x.1) ∧ 2 * x.1 ≤ r.length ∧ x.2.1.length = min x.1 m ∧ x.2.2.1.length = x.1 - m ∧ ((rG (m - x.1) x.2.2.2.1).map fun y => (x.2.1 ++ y.1, x.2.2.1 ++ y.2)) = G ∧ ∀ y ∈ x.2.2.2.1, y.length ≤ 1000000000) (fun x => r.length - 2 * x.1) (0, [], [], r, 2) ?_ ?_ ?_
    · refine Le.of ?_ ?_ ?_ ?_ ?_ <;> simp [leTV, locsIn, encDigs, encTraces, encWant, encTrace, encReads, encRead, encMades, encMade, encD_zero, tkR, hLd, strs'] <;> try omega
    · exact ⟨rfl, rfl, by simp, by simp, by simp, by simp [hG0], hrm⟩
    rintro ⟨j, aR, aM, rs, q⟩ ⟨hq, hrs, hj, haR, haM, hG, hrsm⟩ KL hN hE
    simp only at hq hrs hj haR haM hG hrsm hN
    refine vc_sound (cf := cfRR) laid mixed _ _ _ (by kernel_rfl) ?_
    by_cases hlt : 2 * j < r.length
    rotate_left
    · have hje : 2 * j = r.length := by omega
      have hq' : ¬ (q : Int) < L.length := by omega
      rw [List.drop_eq_nil_of_le (by omega)] at hrs
      subst hrs
      rw [rG_nil] at hG
      simp only [Option.map_some, List.append_nil] at hG
      subst hG
      simp only at hX
      obtain ⟨hp1, hp2⟩ := rG_path r.length (Nat.le_refl _) hG0 hrm
      have htp : TrP ⟨k, aR, aM⟩ := ⟨⟨by simp only; omega, fun y hy => Nat.le_trans (hp1 y hy) (by decide)⟩, by simp only; omega, fun y hy => Nat.le_trans (hp2 y hy) (by decide)⟩
      (simp (maxSteps := 2000000) (disch := first | omega | assumption) [zz, hq'])
      refine hE _ _ (by simp) ?_
      (simp (maxSteps := 2000000) (disch := first | omega | assumption) [zz])
      refine callV_pc (rcheck_ok _ htp hp1 hp2) rfl rfl (by simp) (by simp [argLe, TV.er, encTrace, AV.er, AV.ers, AV.ers_eq, encReads, encMades, List.map_map, Function.comp_def]) ?_
      unfold chkT at hX
      by_cases hck : checkV ⟨k, aR, aM⟩ = 0
      · rw [if_pos hck] at hX
        (simp (maxSteps := 2000000) (disch := first | omega | assumption) [zz, hck])
        (simp (maxSteps := 2000000) (disch := first | omega | assumption) [zz, Tryz.f53, ← hX, readTV, encTrace, encReads, encMades, AV.ers_eq, Function.comp_def])
      · rw [if_neg hck] at hX
        (simp (maxSteps := 2000000) (disch := first | omega | assumption) [zz, hck])
        (simp (maxSteps := 2000000) (disch := first | omega | assumption) [zz, Tryz.f53, ← hX, readTV, tr0, encTrace, encReads, encMades, encD_zero])
    have hrl2 : rs.length = r.length - 2 * j := by rw [hrs, List.length_drop]
    match rs, hrl2, hrs, hG, hrsm with
    | [], h, _, _, _ => simp at h; omega
    | [_], h, _, _, _ => simp at h; omega
    | p :: s :: rest, hrl2, hrs, hG, hrsm =>
    have hps : p.length ≤ 1000000000 := hrsm p (by simp)
    have hss : s.length ≤ 1000000000 := hrsm s (by simp)
    have hmr : ∀ y ∈ rest, y.length ≤ 1000000000 := fun y hy => hrsm y (by simp [hy])
    have hrest' : rest = r.drop (2 * (j + 1)) := by
      have := congrArg (List.drop 2) hrs
      rw [List.drop_drop] at this
      simpa [Nat.mul_add] using this
    have hrl3 : rest.length + 2 = r.length - 2 * j := by simpa using hrl2
    have hLq : L[q]? = some p := by
      rw [hq, hLd, show 2 + 2 * j = 2 * j + 1 + 1 by omega, List.getElem?_cons_succ, List.getElem?_cons_succ]
      have : (r.drop (2 * j))[0]? = some p := by rw [← hrs]; rfl
      simpa using this
    have hLq1 : L[q+1]? = some s := by
      rw [hq, hLd, show 2 + 2 * j + 1 = (2 * j + 1) + 1 + 1 by omega, List.getElem?_cons_succ, List.getElem?_cons_succ]
      have : (r.drop (2 * j))[1]? = some s := by rw [← hrs]; rfl
      simpa using this
    have hgp : (strs' L)[q]? = some (.s p) := by simp [strs', hLq]
    have hgs : (strs' L)[q+1]? = some (.s s) := by simp [strs', hLq1]
    have hqL : q < L.length := by omega
    have hqL1 : q + 1 < L.length := by omega
    have hq' : (q : Int) < L.length := by omega
    have hge : (0 : Int) ≤ (q : Int) + 1 := by omega
    have hq1' : (q : Int) + 1 < L.length := by omega
    (simp (maxSteps := 2000000) (disch := first | omega | assumption) [zz, hq', hq1', hgs, hqL1, hge])
    refine callV_pc (rdigest_ok s hss) rfl rfl (by simp) (by simp [argLe, TV.er, AV.er]) ?_
    by_cases hjm : j < m
    · have hjm' : (q : Int) < 2 + 2 * m := by omega
      have hmj : m - j = (m - (j + 1)) + 1 := by omega
      rw [hmj] at hG
      unfold rG at hG
      by_cases hs0 : s = []
      · subst hs0
        rw [if_pos rfl, Option.map_map] at hG
        rcases Nat.eq_zero_or_pos aR.length with hz | hz
        · obtain rfl := List.length_eq_zero_iff.1 hz
          have htk : tkR 123 0 = .full := rfl
          (simp (maxSteps := 2000000) (disch := first | omega | assumption) [zz, rdigTV, hjm', hgs, hqL1, hge, hq1', hgp, hqL, hq', htk])
          (simp (maxSteps := 2000000) (disch := first | omega | assumption) [zz, appendV])
          (repeat ((with_reducible refine And.intro ?_ ?_); (· first | omega | (show barB _ _ = true; kernel_rfl) | (show rdJ _ _ _ _ _ = true; kernel_rfl) | (show tailB _ _ _ = true; kernel_rfl) | (show sftB _ _ _ = true; kernel_rfl))))
          refine hN _ (j + 1, [⟨p, false, zero32⟩], aM, rest, q + 2) ?_ ⟨by simp only; omega, hrest', by simp only; omega, by simp; omega, by simp; omega, by simpa [Function.comp_def] using hG, hmr⟩ (by simp only; omega)
          refine Le.of ?_ ?_ ?_ ?_ ?_ <;> simp [leTV, locsIn, encDigs, encTraces, encWant, encTrace, encReads, encRead, encMades, encMade, tkR] <;> try omega
          all_goals (intro x; by_cases hx : x = 123 <;> simp [hx])
        · obtain ⟨z, hz⟩ : ∃ z, aR.length = z + 1 := ⟨aR.length - 1, by omega⟩
          have htk : tkR 123 aR.length = .own 123 (z + 1) := by rw [hz]; rfl
          (simp (maxSteps := 2000000) (disch := first | omega | assumption) [zz, rdigTV, hjm', hgs, hqL1, hge, hq1', hgp, hqL, hq', htk])
          (simp (maxSteps := 2000000) (disch := first | omega | assumption) [zz, appendV, hz])
          (repeat ((with_reducible refine And.intro ?_ ?_); (· first | omega | (show barB _ _ = true; kernel_rfl) | (show rdJ _ _ _ _ _ = true; kernel_rfl) | (show tailB _ _ _ = true; kernel_rfl) | (show sftB _ _ _ = true; kernel_rfl))))
          refine hN _ (j + 1, aR ++ [⟨p, false, zero32⟩], aM, rest, q + 2) ?_ ⟨by simp only; omega, hrest', by simp only; omega, by simp; omega, by simp; omega, by simpa [Function.comp_def] using hG, hmr⟩ (by simp only; omega)
          refine Le.of ?_ ?_ ?_ ?_ ?_ <;> simp [leTV, locsIn, encDigs, encTraces, encWant, encTrace, encReads, encRead, encMades, encMade, tkR, hz] <;> try omega
          all_goals (intro x; by_cases hx : x = 123 <;> simp [hx])
      rw [if_neg hs0] at hG
      by_cases hs32 : s.length = 32
      · rw [if_pos hs32, Option.map_map] at hG
        rcases Nat.eq_zero_or_pos aR.length with hz | hz
        · obtain rfl := List.length_eq_zero_iff.1 hz
          have htk : tkR 123 0 = .full := rfl
          (simp (maxSteps := 2000000) (disch := first | omega | assumption) [zz, rdigTV, hs32, hjm', hgp, hqL, hq', htk])
          (simp (maxSteps := 2000000) (disch := first | omega | assumption) [zz, appendV])
          (repeat ((with_reducible refine And.intro ?_ ?_); (· first | omega | (show barB _ _ = true; kernel_rfl) | (show rdJ _ _ _ _ _ = true; kernel_rfl) | (show tailB _ _ _ = true; kernel_rfl) | (show sftB _ _ _ = true; kernel_rfl))))
          refine hN _ (j + 1, [⟨p, true, s⟩], aM, rest, q + 2) ?_ ⟨by simp only; omega, hrest', by simp only; omega, by simp; omega, by simp; omega, by simpa [Function.comp_def] using hG, hmr⟩ (by simp only; omega)
          refine Le.of ?_ ?_ ?_ ?_ ?_ <;> simp [leTV, locsIn, encDigs, encTraces, encWant, encTrace, encReads, encRead, encMades, encMade, tkR] <;> try omega
          all_goals (intro x; by_cases hx : x = 123 <;> simp [hx])
        · obtain ⟨z, hz⟩ : ∃ z, aR.length = z + 1 := ⟨aR.length - 1, by omega⟩
          have htk : tkR 123 aR.length = .own 123 (z + 1) := by rw [hz]; rfl
          (simp (maxSteps := 2000000) (disch := first | omega | assumption) [zz, rdigTV, hs32, hjm', hgp, hqL, hq', htk])
          (simp (maxSteps := 2000000) (disch := first | omega | assumption) [zz, appendV, hz])
          (repeat ((with_reducible refine And.intro ?_ ?_); (· first | omega | (show barB _ _ = true; kernel_rfl) | (show rdJ _ _ _ _ _ = true; kernel_rfl) | (show tailB _ _ _ = true; kernel_rfl) | (show sftB _ _ _ = true; kernel_rfl))))
          refine hN _ (j + 1, aR ++ [⟨p, true, s⟩], aM, rest, q + 2) ?_ ⟨by simp only; omega, hrest', by simp only; omega, by simp; omega, by simp; omega, by simpa [Function.comp_def] using hG, hmr⟩ (by simp only; omega)
          refine Le.of ?_ ?_ ?_ ?_ ?_ <;> simp [leTV, locsIn, encDigs, encTraces, encWant, encTrace, encReads, encRead, encMades, encMade, tkR, hz] <;> try omega
          all_goals (intro x; by_cases hx : x = 123 <;> simp [hx])
      · rw [if_neg hs32] at hG
        simp only [Option.map_none] at hG
        subst hG
        simp only at hX
        have hf := hfin hX.symm
        (simp (maxSteps := 2000000) (disch := first | omega | assumption) [zz, rdigTV, hs32, hjm', hgs, hqL1, hge, hq1', hs0])
        refine hE _ _ (by simp) ?_
        (simp (maxSteps := 2000000) (disch := first | omega | assumption) [zz, Tryz.f53, hf, encD_zero])
    · have hjm' : ¬ (q : Int) < 2 + 2 * m := by omega
      have hm0 : m - (j + 1) = 0 := by omega
      rw [show m - j = 0 by omega] at hG
      unfold rG at hG
      by_cases hs32 : s.length = 32
      · rw [if_pos hs32, Option.map_map] at hG
        rcases Nat.eq_zero_or_pos aM.length with hz | hz
        · obtain rfl := List.length_eq_zero_iff.1 hz
          have htk : tkR 134 0 = .full := rfl
          (simp (maxSteps := 2000000) (disch := first | omega | assumption) [zz, rdigTV, hs32, hjm', hgp, hqL, hq', htk])
          (simp (maxSteps := 2000000) (disch := first | omega | assumption) [zz, appendV])
          (repeat ((with_reducible refine And.intro ?_ ?_); (· first | omega | (show barB _ _ = true; kernel_rfl) | (show rdJ _ _ _ _ _ = true; kernel_rfl) | (show tailB _ _ _ = true; kernel_rfl) | (show sftB _ _ _ = true; kernel_rfl))))
          refine hN _ (j + 1, aR, [⟨p, s⟩], rest, q + 2) ?_ ⟨by simp only; omega, hrest', by simp only; omega, by simp; omega, by simp; omega, by simpa [Function.comp_def, hm0] using hG, hmr⟩ (by simp only; omega)
          refine Le.of ?_ ?_ ?_ ?_ ?_ <;> simp [leTV, locsIn, encDigs, encTraces, encWant, encTrace, encReads, encRead, encMades, encMade, tkR] <;> try omega
          all_goals (intro x; by_cases hx : x = 134 <;> simp [hx])
        · obtain ⟨z, hz⟩ : ∃ z, aM.length = z + 1 := ⟨aM.length - 1, by omega⟩
          have htk : tkR 134 aM.length = .own 134 (z + 1) := by rw [hz]; rfl
          (simp (maxSteps := 2000000) (disch := first | omega | assumption) [zz, rdigTV, hs32, hjm', hgp, hqL, hq', htk])
          (simp (maxSteps := 2000000) (disch := first | omega | assumption) [zz, appendV, hz])
          (repeat ((with_reducible refine And.intro ?_ ?_); (· first | omega | (show barB _ _ = true; kernel_rfl) | (show rdJ _ _ _ _ _ = true; kernel_rfl) | (show tailB _ _ _ = true; kernel_rfl) | (show sftB _ _ _ = true; kernel_rfl))))
          refine hN _ (j + 1, aR, aM ++ [⟨p, s⟩], rest, q + 2) ?_ ⟨by simp only; omega, hrest', by simp only; omega, by simp; omega, by simp; omega, by simpa [Function.comp_def, hm0] using hG, hmr⟩ (by simp only; omega)
          refine Le.of ?_ ?_ ?_ ?_ ?_ <;> simp [leTV, locsIn, encDigs, encTraces, encWant, encTrace, encReads, encRead, encMades, encMade, tkR, hz] <;> try omega
          all_goals (intro x; by_cases hx : x = 134 <;> simp [hx])
      · rw [if_neg hs32] at hG
        simp only [Option.map_none] at hG
        subst hG
        simp only at hX
        have hf := hfin hX.symm
        (simp (maxSteps := 2000000) (disch := first | omega | assumption) [zz, rdigTV, hs32, hjm'])
        refine hE _ _ (by simp) ?_
        (simp (maxSteps := 2000000) (disch := first | omega | assumption) [zz, Tryz.f53, hf, encD_zero])
end Go.Proofs.YthdgnfnalimcnaaGreatDoor
