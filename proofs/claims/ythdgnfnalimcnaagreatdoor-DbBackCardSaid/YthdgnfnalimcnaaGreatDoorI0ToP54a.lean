/- The db of bytes: plain. No condition beyond each theorem's own. -/
import Derived.Test.YthdgnfnalimcnaaGreatDoorH3To
import Derived.Test.YthdgnfnalimcnaaGreatDoorP50
import Derived.Test.YthdgnfnalimcnaaGreatDoorP49ToP44
import Derived.Test.YthdgnfnalimcnaaGreatDoorP25ToPW
set_option linter.unusedSimpArgs false
set_option linter.unusedVariables false
set_option linter.unusedSectionVars false
section
set_option maxRecDepth 100000
/-! The db of bytes: plain. -/
namespace Go.Proofs.YthdgnfnalimcnaaGreatDoor
open Go Go.Ab
open Classical
variable [Sel] [SelPow] [SelErr]

noncomputable def rallV : List (List UInt8) → Except Int (List Trace)
  | [] => .ok []
  | x :: r => if (readV x).2 = 0 then (match rallV r with
    | .ok l => .ok ((readV x).1 :: l)
    | .error f => .error f) else .error (readV x).2
theorem rallV_ok : ∀ {T : List (List UInt8)}, (∀ x ∈ T, (readV x).2 = 0) → rallV T = .ok (T.map fun x => (readV x).1)
  | [], _ => rfl
  | x :: r, h => by
    have ih := rallV_ok (T := r) fun y hy => h y (List.mem_cons_of_mem _ hy)
    rw [rallV, if_pos (h x (by simp)), ih]; rfl
theorem rallV_err : ∀ {T : List (List UInt8)} {k : Nat} (hk : k < T.length), (∀ x ∈ T.take k, (readV x).2 = 0) → (readV T[k]).2 ≠ 0 → rallV T = .error (readV T[k]).2
  | [], _, hk, _, _ => by simp at hk
  | x :: r, 0, _, _, h => by
    simp only [List.getElem_cons_zero] at h ⊢
    rw [rallV, if_neg h]
  | x :: r, k+1, hk, h, h2 => by
    have hk' : k < r.length := by simpa using hk
    have ih := rallV_err (T := r) (k := k) hk' (fun y hy => h y (by rw [List.take_succ_cons]; exact List.mem_cons_of_mem _ hy)) (by simpa using h2)
    simp only [List.getElem_cons_succ]
    rw [rallV, if_pos (h x (by simp)), ih]
noncomputable def readDB (b : List UInt8) : Except Int (Nat × DbL) :=
  if (textsV b).2 ≠ 0 then .error (textsV b).2 else match (textsV b).1 with
  | [] => .error 3
  | h :: T => match intV h with
    | none => .error 3
    | some n => if n < 1 ∨ 8 < n then .error 2 else match rallV T with
      | .error f => .error f
      | .ok ts => if rowV (Lib.itoa n :: (rowOf (hisD n.toNat ts.reverse)).map bytS) = b then .ok (n.toNat, hisD n.toNat ts.reverse) else .error 3
/-! ### what is read may be -/
theorem rG_sum : ∀ (m : Nat) {n : Nat} {l : List (List UInt8)} {x : List Read × List Made}, l.length ≤ m → rG n l = some x → (∀ y ∈ x.1, y.sum.length = 32) ∧ ∀ y ∈ x.2, y.sum.length = 32
  | m, n, [], x, _, h => by rw [rG_nil] at h; cases h; simp
  | m, n, [p], x, _, h => by cases n <;> simp [rG] at h <;> subst h <;> simp
  | 0, n, p :: s :: r, x, hm, h => by simp at hm
  | m + 1, 0, p :: s :: r, x, hm, h => by
    unfold rG at h
    split at h
    · rename_i h32
      obtain ⟨y, hy, rfl⟩ := Option.map_eq_some_iff.1 h
      obtain ⟨h1, h2⟩ := rG_sum m (by simp at hm; omega) hy
      refine ⟨h1, fun z hz => ?_⟩
      rcases List.mem_cons.1 hz with rfl | hz
      · exact h32
      · exact h2 z hz
    · cases h
  | m + 1, n + 1, p :: s :: r, x, hm, h => by
    unfold rG at h
    split at h
    · obtain ⟨y, hy, rfl⟩ := Option.map_eq_some_iff.1 h
      obtain ⟨h1, h2⟩ := rG_sum m (by simp at hm; omega) hy
      refine ⟨fun z hz => ?_, h2⟩
      rcases List.mem_cons.1 hz with rfl | hz
      · simp [zero32]
      · exact h1 z hz
    · split at h
      · rename_i h32
        obtain ⟨y, hy, rfl⟩ := Option.map_eq_some_iff.1 h
        obtain ⟨h1, h2⟩ := rG_sum m (by simp at hm; omega) hy
        refine ⟨fun z hz => ?_, h2⟩
        rcases List.mem_cons.1 hz with rfl | hz
        · exact h32
        · exact h1 z hz
      · cases h
theorem readV_sound {x : List UInt8} (hx : x.length ≤ 1000000000) (h : (readV x).2 = 0) : TrW (readV x).1 ∧ TrD (readV x).1 ∧ checkV (readV x).1 = 0 ∧ 34 ≤ x.length := by
  obtain ⟨hl1, hl2⟩ := texts_le x
  obtain ⟨X, hX⟩ : ∃ X, readV x = X := ⟨_, rfl⟩
  rw [hX] at h ⊢
  unfold readV at hX
  obtain ⟨L, hL⟩ : ∃ L, textsV x = L := ⟨_, rfl⟩
  rw [hL] at hX hl1 hl2
  obtain ⟨l, e⟩ := L
  simp only at hX hl1 hl2
  by_cases he : e = 0
  rotate_left
  · rw [if_neg he] at hX; rw [← hX] at h; exact absurd h he
  subst he
  rw [if_pos rfl, readP_G] at hX
  have hrow := texts_row hL
  match l, hl1, hl2, hX, hrow with
  | [], _, _, hX, _ => simp only [readG] at hX; rw [← hX] at h; cases h
  | [k], _, _, hX, _ => simp only [readG] at hX; rw [← hX] at h; cases h
  | k :: c :: r, hl1, hl2, hX, hrow =>
    simp only [readG] at hX
    by_cases ho : r.length % 2 = 1 ∨ k.length ≠ 32
    · rw [if_pos ho] at hX; rw [← hX] at h; cases h
    rw [if_neg ho] at hX
    simp only [not_or, Classical.not_not] at ho
    have h34 : 34 ≤ x.length := by
      rw [← hrow, rowV_cons]
      simp only [List.length_append, List.length_cons, ho.2]
      have h2 : 1 ≤ (Lib.itoa ((32 : Nat) : Int)).length := by
        rw [itoa_nat]
        have := decDigits_nil 32
        cases hc : Lib.decDigits 32 with
        | nil => exact absurd hc this
        | cons => simp
      omega
    cases hi : intV c with
    | none => rw [hi] at hX; simp only at hX; rw [← hX] at h; cases h
    | some n =>
    rw [hi] at hX
    simp only at hX
    by_cases hn : n < 0 ∨ (r.length : Int) < 2 * n
    · rw [if_pos hn] at hX; rw [← hX] at h; cases h
    rw [if_neg hn] at hX
    cases hG : rG n.toNat r with
    | none => rw [hG] at hX; simp only at hX; rw [← hX] at h; cases h
    | some y =>
    rw [hG] at hX
    simp only [chkT] at hX
    by_cases hc : checkV ⟨k, y.1, y.2⟩ = 0
    rotate_left
    · rw [if_neg hc] at hX; rw [← hX] at h; exact absurd h hc
    rw [if_pos hc] at hX
    rw [← hX]
    have hrm : ∀ z ∈ r, z.length ≤ 1000000000 := fun z hz => Nat.le_trans (hl1 z (by simp [hz])) hx
    obtain ⟨p1, p2⟩ := rG_path r.length (Nat.le_refl _) hG hrm
    obtain ⟨s1, s2⟩ := rG_sum r.length (Nat.le_refl _) hG
    have hS := checkV_S hc
    exact ⟨⟨⟨⟨Nat.le_trans hS.1 (by decide), fun z hz => Nat.le_trans (p1 z hz) (by decide)⟩, Nat.le_trans hS.2 (by decide), fun z hz => Nat.le_trans (p2 z hz) (by decide)⟩, p1, p2⟩, ⟨ho.2, s1, s2⟩, hc, h34⟩
theorem InvD.fold {mo : Nat} (hm : 1 ≤ mo) : ∀ {ts : List Trace} {n : Nat} {L : DbL}, InvD n mo L → (∀ t ∈ ts, TrW t ∧ TrD t) → InvD (n + ts.length) mo (ts.foldl (addD mo) L)
  | [], n, L, h, _ => h
  | x :: r, n, L, h, h2 => by
    have := InvD.fold hm (ts := r) (h.add hm (h2 x (by simp)).1 (h2 x (by simp)).2) fun t ht => h2 t (List.mem_cons_of_mem _ ht)
    rw [List.foldl_cons, List.length_cons]
    rw [show n + (r.length + 1) = n + 1 + r.length by omega]
    exact this
theorem InvD.his {mo : Nat} (hm : 1 ≤ mo) {ts : List Trace} (h : ∀ t ∈ ts, TrW t ∧ TrD t) : InvD ts.length mo (hisD mo ts) := by
  have := InvD.fold hm (ts := ts) InvD.nil h
  rw [Nat.zero_add] at this
  exact this
end Go.Proofs.YthdgnfnalimcnaaGreatDoor
end
section
set_option maxRecDepth 100000
/-! A row of texts, or a trace's bytes, are read as it again: plain. -/
namespace Go.Proofs.YthdgnfnalimcnaaGreatDoor
open Go Go.Ab
open Classical
variable [Sel] [SelPow] [SelErr]

theorem headV_digits (u : Nat) (x : List UInt8) : (Lib.decDigits u).length ≤ 9 → headV 0 0 (Lib.decDigits u ++ x) = headV (Lib.decDigits u).length u x := by
  induction u using Nat.strongRecOn generalizing x with
  | ind u ih =>
    intro hl
    have key : ∀ d : Nat, d < 10 → (UInt8.ofNat (48 + d)).toNat = 48 + d := fun d hd => by simp; omega
    have h58 : ∀ d : Nat, d < 10 → ¬ UInt8.ofNat (48 + d) = 58 := fun d hd e => by
      have := congrArg UInt8.toNat e
      rw [key d hd] at this
      have h : (58 : UInt8).toNat = 58 := rfl
      omega
    by_cases h : u < 10
    · have e : Lib.decDigits u = [UInt8.ofNat (48 + u)] := by rw [Lib.decDigits, dif_pos h]
      rw [e]
      show headV 0 0 (UInt8.ofNat (48 + u) :: x) = headV 1 u x
      have h1 := key u h
      rw [headV, if_neg (by simp), if_neg (by simp only [digB, h1, Bool.and_eq_false_iff, decide_eq_false_iff_not]; omega), h1]
      congr 1; omega
    · have e : Lib.decDigits u = Lib.decDigits (u / 10) ++ [UInt8.ofNat (48 + u % 10)] := by rw [Lib.decDigits, dif_neg h]
      have hl2 : (Lib.decDigits u).length = (Lib.decDigits (u / 10)).length + 1 := by rw [e]; simp
      have hpos : 0 < (Lib.decDigits (u / 10)).length := List.length_pos_iff.2 (decDigits_nil _)
      have ih1 := ih (u / 10) (by omega) (UInt8.ofNat (48 + u % 10) :: x) (by omega)
      rw [hl2]
      rw [e, List.append_assoc]
      show headV 0 0 (Lib.decDigits (u / 10) ++ (UInt8.ofNat (48 + u % 10) :: x)) = _
      rw [ih1]
      have h1 := key (u % 10) (by omega)
      have h2 := h58 (u % 10) (by omega)
      rw [headV, if_neg (fun e => h2 e.1), if_neg (by simp only [digB, h1, Bool.and_eq_false_iff, decide_eq_false_iff_not]; omega), h1]
      congr 1; omega
theorem nDig9 (u : Nat) (h : u < 1000000000) : (Lib.decDigits u).length ≤ 9 := by
  have key : ∀ (k u : Nat), u < 10 ^ (k+1) → (Lib.decDigits u).length ≤ k + 1 := by
    intro k
    induction k with
    | zero => intro u hu; rw [Lib.decDigits, dif_pos (by omega)]; simp
    | succ k ih =>
      intro u hu
      rw [Lib.decDigits]
      split
      · simp
      · have := ih (u / 10) (by rw [Nat.pow_succ] at hu; omega)
        simp; omega
  exact key 8 u (by omega)
theorem head_row (s : List UInt8) (x : List UInt8) (h : s.length < 1000000000) : headV 0 0 (Lib.itoa s.length ++ 58 :: (s ++ x)) = .ok s.length (s ++ x) := by
  rw [itoa_nat, headV_digits _ _ (nDig9 _ h)]
  have hpos : 0 < (Lib.decDigits s.length).length := List.length_pos_iff.2 (decDigits_nil _)
  rw [headV, if_pos ⟨rfl, hpos⟩]
theorem textsA_of_row : ∀ (l : List (List UInt8)) (f : Nat) (out : List (List UInt8)), (∀ s ∈ l, s.length < 1000000000) → (rowV l).length < f → textsA f out (rowV l) = (out ++ l, 0)
  | [], f, out, _, hf => by
    obtain ⟨f, rfl⟩ : ∃ g, f = g + 1 := ⟨f - 1, by omega⟩
    simp [textsA, rowV]
  | s :: l, f, out, hs, hf => by
    obtain ⟨f, rfl⟩ : ∃ g, f = g + 1 := ⟨f - 1, by omega⟩
    have hne : rowV (s :: l) ≠ [] := by rw [rowV_cons]; simp
    have hlen : (rowV l).length < f := by rw [rowV_cons] at hf; simp at hf; omega
    unfold textsA
    rw [if_neg hne, rowV_cons, head_row s (rowV l) (hs s (by simp))]
    simp only
    rw [if_neg (by simp), List.take_left, List.drop_left, textsA_of_row l f _ (fun x hx => hs x (by simp [hx])) hlen]
    simp
theorem texts_of_row {l : List (List UInt8)} (h : ∀ s ∈ l, s.length < 1000000000) : textsV (rowV l) = (l, 0) := by
  have := textsA_of_row l ((rowV l).length + 1) [] h (by omega)
  simpa [textsV] using this
theorem rG_mades : ∀ (l : List Made), (∀ m ∈ l, m.sum.length = 32) → rG 0 (l.flatMap madeT) = some ([], l)
  | [], _ => rfl
  | m :: l, h => by
    have ih := rG_mades l fun x hx => h x (by simp [hx])
    have h32 := h m (by simp)
    show rG 0 (m.path :: m.sum :: l.flatMap madeT) = _
    rw [rG, if_pos h32, ih]
    rfl
theorem rG_reads : ∀ (l : List Read) (o : List Made), (∀ r ∈ l, okS r) → (∀ m ∈ o, m.sum.length = 32) → rG l.length (l.flatMap readT ++ o.flatMap madeT) = some (l, o)
  | [], o, _, ho => by simpa using rG_mades o ho
  | r :: l, o, h, ho => by
    have ih := rG_reads l o (fun x hx => h x (by simp [hx])) ho
    obtain ⟨h32, hz⟩ := h r (by simp)
    obtain ⟨p, is, s⟩ := r
    simp only at h32 hz
    show rG (l.length + 1) (p :: (if is then s else []) :: (l.flatMap readT ++ o.flatMap madeT)) = _
    cases is with
    | true =>
      have hne : s ≠ [] := by intro e; rw [e] at h32; cases h32
      rw [if_pos rfl, rG, if_neg hne, if_pos h32, ih]; rfl
    | false =>
      rw [if_neg (by simp), rG, if_pos rfl, ih, hz rfl]; rfl
theorem readG_of {t : Trace} (hd : TrD t) (hc : checkV t = 0) : readG (bytesL t) = (t, 0) := by
  have hr := rG_reads t.reads t.outs (okS_of_check hd hc) hd.2.2
  obtain ⟨h1, h2⟩ := checkV_len hc
  have hi : intV (Lib.itoa t.reads.length) = some (t.reads.length : Int) := intV_itoa (by omega) (by omega)
  have hl : (t.reads.flatMap readT ++ t.outs.flatMap madeT).length = 2 * t.reads.length + 2 * t.outs.length := by rw [List.length_append, reads_len, mades_len]
  have hk := hd.1
  have e : bytesL t = t.key :: Lib.itoa t.reads.length :: (t.reads.flatMap readT ++ t.outs.flatMap madeT) := by simp [bytesL]
  rw [e]
  simp only [readG, hi]
  rw [if_neg (by omega), if_neg (by omega), Int.toNat_natCast, hr]
  simp only [chkT]
  rw [if_pos (show checkV ⟨t.key, t.reads, t.outs⟩ = 0 from hc)]
theorem bytes_each {t : Trace} (hd : TrD t) (h : checkV t = 0) : ∀ x ∈ bytesL t, x.length ≤ 1040 := by
  obtain ⟨h1, h2⟩ := checkV_len h
  obtain ⟨h3, h4⟩ := checkV_parts h
  obtain ⟨d1, d2, d3⟩ := hd
  intro x hx
  simp only [bytesL, List.mem_append, List.mem_cons, List.mem_flatMap, List.not_mem_nil, or_false] at hx
  rcases hx with ((rfl | rfl) | ⟨r, hr, hx⟩) | ⟨m, hm, hx⟩
  · omega
  · have := decDigits_le t.reads.length
    rw [itoa_nat]; omega
  · have := mayV_len (readsV_zero h3 r hr).1
    simp only [readT, List.mem_cons, List.not_mem_nil, or_false] at hx
    rcases hx with rfl | rfl
    · exact this
    · split
      · have := d2 r hr; omega
      · simp
  · have hu := outsV_zero h4 m hm
    simp only [underV, Bool.and_eq_true] at hu
    have := mayV_len hu.1
    simp only [madeT, List.mem_cons, List.not_mem_nil, or_false] at hx
    rcases hx with rfl | rfl
    · exact this
    · have := d3 m hm; omega
theorem readV_of {t : Trace} (hd : TrD t) (hc : checkV t = 0) : readV (rowV (bytesL t)) = (t, 0) := by
  have h := texts_of_row (l := bytesL t) fun s hs => by have := bytes_each hd hc s hs; omega
  unfold readV
  rw [h, if_pos rfl, readP_G, readG_of hd hc]
end Go.Proofs.YthdgnfnalimcnaaGreatDoor
end
