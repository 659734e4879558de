/- The db of bytes: plain. No condition beyond each theorem's own. -/
import Derived.Test.YthdgnfnalimcnaaGreatDoorH3To
import Derived.Test.YthdgnfnalimcnaaGreatDoorP50
import Derived.Test.YthdgnfnalimcnaaGreatDoorE3To
set_option linter.unusedSimpArgs false
set_option linter.unusedVariables false
set_option linter.unusedSectionVars false
section
set_option maxRecDepth 100000
/-! The db of bytes: plain. -/
namespace Go.Proofs.YthdgnfnalimcnaaGreatDoor
open Go Go.Ab
open Classical
variable [Sel] [SelPow] [SelErr]

noncomputable def rallV : List (List UInt8) → Except Int (List Trace)
  | [] => .ok []
  | x :: r => if (readV x).2 = 0 then (match rallV r with
    | .ok l => .ok ((readV x).1 :: l)
    | .error f => .error f) else .error (readV x).2
theorem rallV_ok : ∀ {T : List (List UInt8)}, (∀ x ∈ T, (readV x).2 = 0) → rallV T = .ok (T.map fun x => (readV x).1)
  | [], _ => rfl
  | x :: r, h => by
    have ih := rallV_ok (T := r) fun y hy => h y (List.mem_cons_of_mem _ hy)
    rw [rallV, if_pos (h x (by simp)), ih]; rfl
theorem rallV_err : ∀ {T : List (List UInt8)} {k : Nat} (hk : k < T.length), (∀ x ∈ T.take k, (readV x).2 = 0) → (readV T[k]).2 ≠ 0 → rallV T = .error (readV T[k]).2
  | [], _, hk, _, _ => by simp at hk
  | x :: r, 0, _, _, h => by
    simp only [List.getElem_cons_zero] at h ⊢
    rw [rallV, if_neg h]
  | x :: r, k+1, hk, h, h2 => by
    have hk' : k < r.length := by simpa using hk
    have ih := rallV_err (T := r) (k := k) hk' (fun y hy => h y (by rw [List.take_succ_cons]; exact List.mem_cons_of_mem _ hy)) (by simpa using h2)
    simp only [List.getElem_cons_succ]
    rw [rallV, if_pos (h x (by simp)), ih]
noncomputable def readDB (b : List UInt8) : Except Int (Nat × DbL) :=
  if (textsV b).2 ≠ 0 then .error (textsV b).2 else match (textsV b).1 with
  | [] => .error 3
  | h :: T => match intV h with
    | none => .error 3
    | some n => if n < 1 ∨ 8 < n then .error 2 else match rallV T with
      | .error f => .error f
      | .ok ts => if rowV (Lib.itoa n :: (rowOf (hisD n.toNat ts.reverse)).map bytS) = b then .ok (n.toNat, hisD n.toNat ts.reverse) else .error 3
/-! ### what is read may be -/
theorem rG_sum : ∀ (m : Nat) {n : Nat} {l : List (List UInt8)} {x : List Read × List Made}, l.length ≤ m → rG n l = some x → (∀ y ∈ x.1, y.sum.length = 32) ∧ ∀ y ∈ x.2, y.sum.length = 32
  | m, n, [], x, _, h => by rw [rG_nil] at h; cases h; simp
  | m, n, [p], x, _, h => by cases n <;> simp [rG] at h <;> subst h <;> simp
  | 0, n, p :: s :: r, x, hm, h => by simp at hm
  | m + 1, 0, p :: s :: r, x, hm, h => by
    unfold rG at h
    split at h
    · rename_i h32
      obtain ⟨y, hy, rfl⟩ := Option.map_eq_some_iff.1 h
      obtain ⟨h1, h2⟩ := rG_sum m (by simp at hm; omega) hy
      refine ⟨h1, fun z hz => ?_⟩
      rcases List.mem_cons.1 hz with rfl | hz
      · exact h32
      · exact h2 z hz
    · cases h
  | m + 1, n + 1, p :: s :: r, x, hm, h => by
    unfold rG at h
    split at h
    · obtain ⟨y, hy, rfl⟩ := Option.map_eq_some_iff.1 h
      obtain ⟨h1, h2⟩ := rG_sum m (by simp at hm; omega) hy
      refine ⟨fun z hz => ?_, h2⟩
      rcases List.mem_cons.1 hz with rfl | hz
      · simp [zero32]
      · exact h1 z hz
    · split at h
      · rename_i h32
        obtain ⟨y, hy, rfl⟩ := Option.map_eq_some_iff.1 h
        obtain ⟨h1, h2⟩ := rG_sum m (by simp at hm; omega) hy
        refine ⟨fun z hz => ?_, h2⟩
        rcases List.mem_cons.1 hz with rfl | hz
        · exact h32
        · exact h1 z hz
      · cases h
theorem rowV_ge {n : Nat} : ∀ {l : List (List UInt8)}, (∀ x ∈ l, n ≤ x.length) → (n + 2) * l.length ≤ (rowV l).length
  | [], _ => by simp
  | s :: l, h => by
    have ih := rowV_ge (l := l) fun x hx => h x (List.mem_cons_of_mem _ hx)
    have h1 := h s (by simp)
    have h2 : 1 ≤ (Lib.itoa (s.length : Int)).length := by
      rw [itoa_nat]
      have := decDigits_nil s.length
      cases hc : Lib.decDigits s.length with
      | nil => exact absurd hc this
      | cons => simp
    rw [rowV_cons]
    simp only [List.length_append, List.length_cons, Nat.mul_add, Nat.mul_one] at ih ⊢
    omega
theorem readV_sound {x : List UInt8} (hx : x.length ≤ 1000000000) (h : (readV x).2 = 0) : TrW (readV x).1 ∧ TrD (readV x).1 ∧ checkV (readV x).1 = 0 ∧ 34 ≤ x.length := by
  obtain ⟨hl1, hl2⟩ := texts_le x
  obtain ⟨X, hX⟩ : ∃ X, readV x = X := ⟨_, rfl⟩
  rw [hX] at h ⊢
  unfold readV at hX
  obtain ⟨L, hL⟩ : ∃ L, textsV x = L := ⟨_, rfl⟩
  rw [hL] at hX hl1 hl2
  obtain ⟨l, e⟩ := L
  simp only at hX hl1 hl2
  by_cases he : e = 0
  rotate_left
  · rw [if_neg he] at hX; rw [← hX] at h; exact absurd h he
  subst he
  rw [if_pos rfl, readP_G] at hX
  have hrow := texts_row hL
  match l, hl1, hl2, hX, hrow with
  | [], _, _, hX, _ => simp only [readG] at hX; rw [← hX] at h; cases h
  | [k], _, _, hX, _ => simp only [readG] at hX; rw [← hX] at h; cases h
  | k :: c :: r, hl1, hl2, hX, hrow =>
    simp only [readG] at hX
    by_cases ho : r.length % 2 = 1 ∨ k.length ≠ 32
    · rw [if_pos ho] at hX; rw [← hX] at h; cases h
    rw [if_neg ho] at hX
    simp only [not_or, Classical.not_not] at ho
    have h34 : 34 ≤ x.length := by
      rw [← hrow, rowV_cons]
      simp only [List.length_append, List.length_cons, ho.2]
      have h2 : 1 ≤ (Lib.itoa ((32 : Nat) : Int)).length := by
        rw [itoa_nat]
        have := decDigits_nil 32
        cases hc : Lib.decDigits 32 with
        | nil => exact absurd hc this
        | cons => simp
      omega
    cases hi : intV c with
    | none => rw [hi] at hX; simp only at hX; rw [← hX] at h; cases h
    | some n =>
    rw [hi] at hX
    simp only at hX
    by_cases hn : n < 0 ∨ (r.length : Int) < 2 * n
    · rw [if_pos hn] at hX; rw [← hX] at h; cases h
    rw [if_neg hn] at hX
    cases hG : rG n.toNat r with
    | none => rw [hG] at hX; simp only at hX; rw [← hX] at h; cases h
    | some y =>
    rw [hG] at hX
    simp only [chkT] at hX
    by_cases hc : checkV ⟨k, y.1, y.2⟩ = 0
    rotate_left
    · rw [if_neg hc] at hX; rw [← hX] at h; exact absurd h hc
    rw [if_pos hc] at hX
    rw [← hX]
    have hrm : ∀ z ∈ r, z.length ≤ 1000000000 := fun z hz => Nat.le_trans (hl1 z (by simp [hz])) hx
    obtain ⟨p1, p2⟩ := rG_path r.length (Nat.le_refl _) hG hrm
    obtain ⟨s1, s2⟩ := rG_sum r.length (Nat.le_refl _) hG
    have hS := checkV_S hc
    exact ⟨⟨⟨⟨Nat.le_trans hS.1 (by decide), fun z hz => Nat.le_trans (p1 z hz) (by decide)⟩, Nat.le_trans hS.2 (by decide), fun z hz => Nat.le_trans (p2 z hz) (by decide)⟩, p1, p2⟩, ⟨ho.2, s1, s2⟩, hc, h34⟩
theorem InvD.fold {mo : Nat} (hm : 1 ≤ mo) : ∀ {ts : List Trace} {n : Nat} {L : DbL}, InvD n mo L → (∀ t ∈ ts, TrW t ∧ TrD t) → InvD (n + ts.length) mo (ts.foldl (addD mo) L)
  | [], n, L, h, _ => h
  | x :: r, n, L, h, h2 => by
    have := InvD.fold hm (ts := r) (h.add hm (h2 x (by simp)).1 (h2 x (by simp)).2) fun t ht => h2 t (List.mem_cons_of_mem _ ht)
    rw [List.foldl_cons, List.length_cons]
    rw [show n + (r.length + 1) = n + 1 + r.length by omega]
    exact this
theorem InvD.his {mo : Nat} (hm : 1 ≤ mo) {ts : List Trace} (h : ∀ t ∈ ts, TrW t ∧ TrD t) : InvD ts.length mo (hisD mo ts) := by
  have := InvD.fold hm (ts := ts) InvD.nil h
  rw [Nat.zero_add] at this
  exact this
end Go.Proofs.YthdgnfnalimcnaaGreatDoor
end
section
set_option maxRecDepth 100000
/-! A row of traces, one by one, the last one first. -/
namespace Go.Proofs.YthdgnfnalimcnaaGreatDoor
open Go Go.Ab
open Classical
variable [Sel]

@[simp] theorem fnok50 : fnOK Tryz.prog 50 = true := by kernel_rfl
@[simp] theorem isne50 : isNE Tryz.prog (.func 50) = false := isNE_func fnok50
@[simp] theorem fnok85 : fnOK Tryz.prog 85 = true := by kernel_rfl
@[simp] theorem isne85 : isNE Tryz.prog (.func 85) = false := isNE_func fnok85
theorem AT.absE {c : Ctx} {code : Code} {K : Exit → St → Prop} {s : St} (Q : (Nat → TV) → Prop) (h0 : Q s.env) (h : ∀ E, Q E → AT c code K { s with env := E }) : AT c code K s := h s.env h0
abbrev TsT : TyD := .slice 34
noncomputable def bxO (l : List Trace) : HObj := .var TsT (.sl .no (trs l))
theorem bxO_er (l : List Trace) : (bxO l).er = bxO l := by simp [bxO, HObj.er_var, AV.erk]
abbrev cfBw : Cfg := ⟨fun n => n == 1, fun _ => false⟩
theorem backward_ok (l : List Trace) : ACalls Tryz.prog 50 [.av TsT (.sl .no (trs l))] [] fun r H' => ∃ c, r = .av .func (.fn 85 [.ptr c TsT []]) ∧ H' = [(c, bxO l)] := by
  refine ACalls.of_vc laid mixed Tryz.func50 rfl (by kernel_rfl) cfBw (by simp [Tryz.ntmps50]) fun imm0 w0 => ?_
  (simp (maxSteps := 2000000) (disch := first | omega | assumption) [zz, -List.reduceReplicate])
  intro c
  (simp (maxSteps := 2000000) (disch := first | omega | assumption) [zz, -List.reduceReplicate, Tryz.f50, bxO, AV.ers])
set_option maxHeartbeats 4000000 in
theorem back1_ok {G : Nat → Heap → Prop} (y c : Nat) (l : List Trace) (hl : l.length ≤ 1000000000) (hGe : ∀ k H, G k H → H.er = H)
    (hY : ∀ k (hk : k < l.length) H, G k H → YC Tryz.prog y [.av (.int .i64) (.i .i64 (l.length - 1 - k : Nat)), .av TrT (encTrace (l[l.length - 1 - k]'(by omega)))] H fun r H' => r = .av .bool (.b true) ∧ G (k+1) H') :
    ∀ H, G 0 H → ACalls Tryz.prog 85 [.av .func (.yl y), .av .ptr (.ptr c TsT [])] ((c, bxO l) :: H)
      fun r H' => r = .tup [] ∧ ∃ H1, G l.length H1 ∧ H' = (c, bxO l) :: H1 := by
  intro H hG
  have hbe := bxO_er l
  have hsl : ∀ x : List Trace, (trs x).length = x.length := fun x => by simp [trs]
  refine ACalls.of_vc laid mixed Tryz.func85 rfl (by kernel_rfl) cf0 (by simp [Tryz.ntmps85]) fun imm0 w0 => ?_
  (simp (maxSteps := 2000000) (disch := first | omega | assumption) [zz, -List.reduceReplicate, bxO, hsl])
  refine AT.loop' (α := Nat × Heap) (fun p => St.of [(0, .av .func (.yl y)), (1, .av .ptr (.ptr c TsT [])), (3, .av (.int .i64) (.i .i64 ((l.length : Int) - 1 - p.1)))] [] (fun _ => 0) ((c, bxO l) :: p.2))
    (fun p => p.1 ≤ l.length ∧ G p.1 p.2) (fun p => l.length - p.1) (0, H) ?_ ?_ ?_
  · refine Le.of ?_ ?_ ?_ ?_ ?_ <;> simp [leTV, locsIn, bxO] <;> try omega
  · exact ⟨by omega, hG⟩
  rintro ⟨k, H1⟩ ⟨hk, hG1⟩ KL hN hE
  simp only at hk hG1 hN
  refine vc_sound (cf := cf0) laid mixed _ _ _ (by kernel_rfl) ?_
  by_cases hlt : k < l.length
  · obtain ⟨i, hi⟩ : ∃ i : Nat, i = l.length - 1 - k := ⟨_, rfl⟩
    have hii : (l.length : Int) - 1 - k = i := by omega
    have hil : i < l.length := by omega
    have hgi : (trs l)[i]? = some (encTrace l[i]) := by simp [trs, List.getElem?_eq_getElem hil]
    rw [hii]
    have hge : (0 : Int) ≤ i := by omega
    (simp (maxSteps := 2000000) (disch := first | omega | assumption) [zz, -List.reduceReplicate, hge, bxO, hgi, hsl, hil])
    refine callV_yield (R := fun r H' => r = .av .bool (.b true) ∧ G (k+1) H') H1 [(c, bxO l)] (List.perm_append_comm (l₁ := [_])) (by simp [argOK]) ?_ ?_
    · rw [hGe _ _ hG1]
      have := hY k hlt _ hG1
      simpa [TV.er, ← hi] using this
    rintro r H2 ⟨rfl, hG2⟩ _
    refine ⟨(c, bxO l) :: H2, HSub.of_perm (List.perm_append_comm (l₂ := [_])), ?_⟩
    (simp (maxSteps := 2000000) (disch := first | omega | assumption) [zz, -List.reduceReplicate])
    refine hN _ (k+1, H2) ?_ ⟨by omega, hG2⟩ (by simp only; omega)
    refine Le.of ?_ ?_ ?_ ?_ ?_ <;> simp [leTV, locsIn, bxO] <;> try omega
  · have hge : (l.length : Int) - 1 - k = -1 := by omega
    rw [hge]
    (simp (maxSteps := 2000000) (disch := first | omega | assumption) [zz, -List.reduceReplicate])
    refine hE _ _ (by simp) ?_
    have hkl : k = l.length := by omega
    subst hkl
    have hH := hGe _ _ hG1
    (simp (maxSteps := 2000000) (disch := first | omega | assumption) [zz, -List.reduceReplicate, Tryz.f85, hH, hbe])
    exact ⟨hG1, by first | rfl | simp [bxO]⟩
end Go.Proofs.YthdgnfnalimcnaaGreatDoor
end
