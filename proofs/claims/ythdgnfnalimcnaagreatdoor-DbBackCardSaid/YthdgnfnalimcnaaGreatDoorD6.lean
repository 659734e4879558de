/- A db: its keys' rows. No condition beyond each theorem's own. -/
import Derived.Test.YthdgnfnalimcnaaGreatDoorD5
set_option linter.unusedSimpArgs false
set_option linter.unusedVariables false
set_option linter.unusedSectionVars false
set_option maxRecDepth 100000
/-! A db: its keys' rows. -/
namespace Go.Proofs.YthdgnfnalimcnaaGreatDoor
open Go Go.Ab
open Classical
variable [Sel]

abbrev DbL := List (Dig × List Trace)
def getD (L : DbL) (k : Dig) : List Trace := match L.find? (fun p => decide (p.1 = k)) with
  | some p => p.2
  | none => []
def putD (k : Dig) (v : List Trace) : DbL → DbL
  | [] => [(k, v)]
  | (k', v') :: r => if k' = k then (k, v) :: r else (k', v') :: putD k v r
noncomputable def addD (mo : Nat) (L : DbL) (t : Trace) : DbL := if checkV t = 0 then putD t.key (addL mo t (getD L t.key)) L else L
structure Cel where
  key : Dig
  b : Nat
  cap : Nat
  ts : List Trace
  j : List AV
def celE (c : Cel) : AV × AV := (encD c.key, mslT c.b c.ts.length c.cap)
noncomputable def celO (c : Cel) : Nat × HObj := (c.b, rowO c.cap c.ts c.j)
def CelOK (c : Cel) : Prop := JK c.j ∧ c.ts.length + c.j.length = c.cap ∧ (∀ x ∈ c.ts, TrS x) ∧ c.ts.length ≤ 8
def absD (cs : List Cel) : DbL := cs.map fun c => (c.key, c.ts)
noncomputable def DbH (B M mo : Nat) (cs : List Cel) : Heap := (B, dbO M mo) :: (M, mpO (cs.map celE)) :: cs.map celO
theorem EK_cel (cs : List Cel) : EK (cs.map celE) := by
  rw [EK_iff]
  intro p hp
  obtain ⟨c, _, rfl⟩ := List.mem_map.1 hp
  exact ⟨er_encD _, rfl⟩
theorem cel_find (k : Dig) : ∀ cs : List Cel,
    (mfind (encD k) (cs.map celE) = none ∧ getD (absD cs) k = [] ∧ (∀ v, mput (encD k) v (cs.map celE) = cs.map celE ++ [(encD k, v)]) ∧ ∀ v, putD k v (absD cs) = absD cs ++ [(k, v)]) ∨
    ∃ cs1 c cs2, cs = cs1 ++ c :: cs2 ∧ c.key = k ∧ mfind (encD k) (cs.map celE) = some (mslT c.b c.ts.length c.cap) ∧ getD (absD cs) k = c.ts ∧ (∀ v, mput (encD k) v (cs.map celE) = cs1.map celE ++ (encD k, v) :: cs2.map celE) ∧ ∀ v, putD k v (absD cs) = absD cs1 ++ (k, v) :: absD cs2
  | [] => .inl ⟨rfl, rfl, fun v => rfl, fun v => rfl⟩
  | c :: cs => by
    by_cases h : c.key = k
    · right
      refine ⟨[], c, cs, rfl, h, ?_, ?_, fun v => ?_, fun v => ?_⟩
      · simp [mfind, celE, h]
      · simp [getD, absD, h]
      · simp [mput, celE, h]
      · simp [putD, absD, h]
    · have h' : ¬ encD c.key = encD k := fun e => h (encD_inj.1 e)
      rcases cel_find k cs with ⟨h1, h2, h3, h4⟩ | ⟨cs1, c', cs2, h0, hk, h1, h2, h3, h4⟩
      · left
        refine ⟨?_, ?_, fun v => ?_, fun v => ?_⟩
        · simp only [List.map_cons, celE, mfind, h', if_false]; exact h1
        · simp only [getD, absD, List.map_cons, List.find?_cons, h, decide_false] at h2 ⊢; exact h2
        · simp only [List.map_cons, celE, mput, h', if_false, List.cons_append]
          rw [h3 v]
        · simp only [absD, List.map_cons, putD, h, if_false, List.cons_append]
          rw [show cs.map (fun c => (c.key, c.ts)) = absD cs from rfl, h4 v]
      · right
        refine ⟨c :: cs1, c', cs2, by rw [h0]; rfl, hk, ?_, ?_, fun v => ?_, fun v => ?_⟩
        · simp only [List.map_cons, celE, mfind, h', if_false]; exact h1
        · simp only [getD, absD, List.map_cons, List.find?_cons, h, decide_false] at h2 ⊢; exact h2
        · simp only [List.map_cons, celE, mput, h', if_false, List.cons_append]
          rw [h3 v]
        · simp only [absD, List.map_cons, putD, h, if_false, List.cons_append]
          rw [show cs.map (fun c => (c.key, c.ts)) = absD cs from rfl, h4 v]
          rfl
theorem addL_S {mo : Nat} {t : Trace} {ts : List Trace} (ht : TrS t) (hts : ∀ x ∈ ts, TrS x) : ∀ x ∈ addL mo t ts, TrS x := by
  intro x hx
  have := List.mem_of_mem_take hx
  rcases List.mem_cons.1 this with rfl | h
  · exact ht
  · exact hts x (List.mem_filter.1 h).1
theorem addL_len (mo : Nat) (t : Trace) (ts : List Trace) : (addL mo t ts).length ≤ mo := by unfold addL; rw [List.length_take]; omega
theorem dbH_ne {B M mo : Nat} {cs : List Cel} (h : (DbH B M mo cs).keys.Nodup) : B ≠ M ∧ ∀ c ∈ cs, c.b ≠ B ∧ c.b ≠ M := by
  have h1 : (B :: M :: cs.map (·.b)).Nodup := by
    have e : (DbH B M mo cs).keys = B :: M :: cs.map (·.b) := by simp [DbH, Heap.keys, celO, Function.comp_def]
    rw [e] at h; exact h
  simp only [List.nodup_cons, List.mem_cons, not_or] at h1
  refine ⟨h1.1.1, fun c hc => ⟨fun e => h1.1.2 (e ▸ List.mem_map.2 ⟨c, hc, rfl⟩), fun e => h1.2.1 (e ▸ List.mem_map.2 ⟨c, hc, rfl⟩)⟩⟩
theorem dbadd_ok (t : Trace) (ht : TrP t) (mo : Nat) (hm : 1 ≤ mo) (hm8 : mo ≤ 8) (B M : Nat) (cs : List Cel) (hcs : ∀ c ∈ cs, CelOK c) :
    ACalls Tryz.prog 11 [.av .ptr (.ptr B DbT []), .av (tyOf Tryz.prog 34) (encTrace t)] (DbH B M mo cs)
      fun r H' => r = .av (.int .i64) (.i .i64 (checkV t)) ∧ ∃ cs', (∀ c ∈ cs', CelOK c) ∧ absD cs' = addD mo (absD cs) t ∧ H' = DbH B M mo cs' := by
  refine ACalls.nodup fun hnd => ?_
  obtain ⟨hBM, hbs⟩ := dbH_ne hnd
  by_cases hc : checkV t = 0
  rotate_left
  · refine ACalls.use (Hs := []) (rest := DbH B M mo cs) (List.Perm.refl _) (add_bad t ht hc B) ?_
    rintro r H1 ⟨rfl, rfl⟩ _
    exact ⟨_, HSub.refl _, rfl, cs, hcs, by simp [addD, hc], rfl⟩
  have hadd : addD mo (absD cs) t = putD t.key (addL mo t (getD (absD cs) t.key)) (absD cs) := by simp [addD, hc]
  rw [hadd, hc]
  rcases cel_find t.key cs with ⟨h1, h2, h3, h4⟩ | ⟨cs1, c, cs2, h0, hk, h1, h2, h3, h4⟩
  · refine ACalls.use (Hs := [(B, dbO M mo), (M, mpO (cs.map celE))]) (rest := cs.map celO) (List.Perm.refl _) (add_new t ht hc _ (EK_cel cs) mo hm hm8 B M hBM h1) ?_
    rintro r H1 ⟨rfl, b', cap', j', hj, hcap, rfl⟩ _
    have ha1 : addL mo t [] = [t] := by
      obtain ⟨q, rfl⟩ : ∃ q, mo = q + 1 := ⟨mo - 1, by omega⟩
      simp [addL, kp]
    refine ⟨DbH B M mo (cs ++ [⟨t.key, b', cap', [t], j'⟩]), HSub.of_perm ?_, rfl, cs ++ [⟨t.key, b', cap', [t], j'⟩], ?_, ?_, rfl⟩
    · rw [h3]
      simp only [DbH, List.map_append, List.map_cons, List.map_nil]
      exact List.Perm.cons _ (List.Perm.cons _ (List.perm_append_comm (l₁ := [_])))
    · intro c hcc
      rcases List.mem_append.1 hcc with h | h
      · exact hcs c h
      · simp only [List.mem_singleton] at h; subst h
        exact ⟨hj, hcap, fun x hx => by simp only [List.mem_singleton] at hx; subst hx; exact checkV_S hc, by simp⟩
    · rw [h2, ha1, h4]; simp [absD]
  · have hcm : c ∈ cs := by rw [h0]; simp
    obtain ⟨hj, hcap, hS, h8⟩ := hcs c hcm
    obtain ⟨hb1, hb2⟩ := hbs c hcm
    refine ACalls.use (Hs := [(B, dbO M mo), (M, mpO (cs.map celE)), (c.b, rowO c.cap c.ts c.j)]) (rest := cs1.map celO ++ cs2.map celO) ?_ (add_old t ht hc _ (EK_cel cs) mo hm hm8 B M c.b c.cap hBM hb1 hb2 c.ts hS c.j hj h1 hcap (by omega)) ?_
    · rw [DbH]
      refine List.Perm.cons _ (List.Perm.cons _ ?_)
      rw [h0, List.map_append, List.map_cons]
      exact List.perm_middle
    rintro r H1 ⟨rfl, b', cap', j', hj', hcap', rfl⟩ _
    refine ⟨DbH B M mo (cs1 ++ ⟨t.key, b', cap', addL mo t c.ts, j'⟩ :: cs2), HSub.of_perm ?_, rfl, cs1 ++ ⟨t.key, b', cap', addL mo t c.ts, j'⟩ :: cs2, ?_, ?_, rfl⟩
    · rw [h3]
      simp only [DbH, List.map_append, List.map_cons]
      exact List.Perm.cons _ (List.Perm.cons _ (List.perm_middle (l₁ := cs1.map celO) (l₂ := cs2.map celO) (a := (b', rowO cap' (addL mo t c.ts) j'))).symm)
    · intro x hx
      rcases List.mem_append.1 hx with h | h
      · exact hcs x (by rw [h0]; exact List.mem_append_left _ h)
      · rcases List.mem_cons.1 h with rfl | h
        · exact ⟨hj', hcap', addL_S (checkV_S hc) hS, Nat.le_trans (addL_len _ _ _) hm8⟩
        · exact hcs x (by rw [h0]; exact List.mem_append_right _ (List.mem_cons_of_mem _ h))
    · rw [h2, h4]; simp [absD]
theorem dbof_ok (k : Dig) (mo : Nat) (B M : Nat) (cs : List Cel) (hcs : ∀ c ∈ cs, CelOK c) :
    ACalls Tryz.prog 22 [.av .ptr (.ptr B DbT []), .av (tyOf Tryz.prog 30) (encD k)] (DbH B M mo cs)
      fun r H' => r = .av (.slice 34) (encTraces (getD (absD cs) k)) ∧ H' = DbH B M mo cs := by
  refine ACalls.nodup fun hnd => ?_
  obtain ⟨hBM, hbs⟩ := dbH_ne hnd
  rcases cel_find k cs with ⟨h1, h2, h3, h4⟩ | ⟨cs1, c, cs2, h0, hk, h1, h2, h3, h4⟩
  · refine ACalls.use (Hs := [(B, dbO M mo), (M, mpO (cs.map celE))]) (rest := cs.map celO) (List.Perm.refl _) (of_none k _ (EK_cel cs) mo B M hBM h1) ?_
    rintro r H1 ⟨rfl, rfl⟩ _
    exact ⟨_, HSub.refl _, by rw [h2]; rfl, rfl⟩
  · have hcm : c ∈ cs := by rw [h0]; simp
    obtain ⟨hj, hcap, hS, h8⟩ := hcs c hcm
    have hp : (DbH B M mo cs).Perm ([(B, dbO M mo), (M, mpO (cs.map celE)), (c.b, rowO c.cap c.ts c.j)] ++ (cs1.map celO ++ cs2.map celO)) := by
      rw [DbH]
      refine List.Perm.cons _ (List.Perm.cons _ ?_)
      rw [h0, List.map_append, List.map_cons]
      exact List.perm_middle
    refine ACalls.use hp (of_some k _ (EK_cel cs) mo B M c.b c.cap hBM c.ts hS c.j hj h1 hcap (by omega)) ?_
    rintro r H1 ⟨rfl, rfl⟩ _
    exact ⟨_, HSub.of_perm hp.symm, by rw [h2]; rfl, rfl⟩
theorem dbnew_ok (mo : Nat) (h1 : 1 ≤ mo) (h8 : mo ≤ 8) : ACalls Tryz.prog 9 [.av (.int .i64) (.i .i64 mo)] [] fun r H' => ∃ B M, r = .tup [(.ptr, .ptr B DbT []), (.int .i64, .i .i64 0)] ∧ H' = DbH B M mo [] :=
  (new_ok mo (by omega) (by omega)).mono fun r H' ⟨B, M, _, h2, h3⟩ => ⟨B, M, h2, h3⟩
theorem dbH_er {B M mo : Nat} {cs : List Cel} (hcs : ∀ c ∈ cs, CelOK c) : (DbH B M mo cs).er = DbH B M mo cs := by
  have h1 : Heap.er (cs.map celO) = cs.map celO := by
    induction cs with
    | nil => rfl
    | cons c r ih =>
      rw [List.map_cons]
      show (c.b, (rowO c.cap c.ts c.j).er) :: Heap.er (r.map celO) = _
      rw [ih fun c hc => hcs c (List.mem_cons_of_mem _ hc), rowO_er (hcs c (by simp)).1]; rfl
  have h2 : (mpO (cs.map celE)).er = mpO (cs.map celE) := by
    have := EK_cel cs
    unfold EK at this
    simp only [mpO, HObj.er_map, this]
  simp only [DbH, Heap.er_cons, h1, h2]
  rfl
theorem callV_add {s : St} {x : AV} {dst : Option Nat} {K : St → Prop} (t : Trace) (ht : TrP t) (mo : Nat) (hm : 1 ≤ mo) (hm8 : mo ≤ 8) (B M : Nat) (cs : List Cel) (hcs : ∀ c ∈ cs, CelOK c) (rest : Heap)
    (hH : s.H.Perm (DbH B M mo cs ++ rest)) (hx : x.er = encTrace t)
    (hk : ∀ cs', (∀ c ∈ cs', CelOK c) → absD cs' = addD mo (absD cs) t → K (({ s with H := DbH B M mo cs' ++ rest } : St).put dst (.av (.int .i64) (.i .i64 (checkV t))))) :
    callV Tryz.prog s (.av .func (.fn 11 [])) [.av .ptr (.ptr B DbT []), .av TrT x] dst K := by
  have h := dbadd_ok t ht mo hm hm8 B M cs hcs
  have e : tyOf Tryz.prog 34 = TrT := ty34
  rw [e] at h
  refine callV_sub (DbH B M mo cs) rest hH rfl rfl (by simp) (R := fun r H' => r = .av (.int .i64) (.i .i64 (checkV t)) ∧ ∃ cs', (∀ c ∈ cs', CelOK c) ∧ absD cs' = addD mo (absD cs) t ∧ H' = DbH B M mo cs') ?_ ?_
  · rw [dbH_er hcs]
    simp only [List.map_nil, List.append_nil, List.map_cons, TV.er, AV.er, hx, List.reverse_nil]
    exact h
  rintro r H' ⟨rfl, cs', h1, h2, rfl⟩ _
  exact ⟨_, HSub.refl _, hk cs' h1 h2⟩
theorem callV_of {s : St} {x : AV} {dst : Option Nat} {K : St → Prop} (k : Dig) (mo : Nat) (B M : Nat) (cs : List Cel) (hcs : ∀ c ∈ cs, CelOK c) (rest : Heap)
    (hH : s.H.Perm (DbH B M mo cs ++ rest)) (hx : x.er = encD k)
    (hk : K (({ s with H := DbH B M mo cs ++ rest } : St).put dst (.av (.slice 34) (encTraces (getD (absD cs) k))))) :
    callV Tryz.prog s (.av .func (.fn 22 [])) [.av .ptr (.ptr B DbT []), .av (.arr 32 5) x] dst K := by
  have h := dbof_ok k mo B M cs hcs
  have e : tyOf Tryz.prog 30 = .arr 32 5 := ty30
  rw [e] at h
  refine callV_sub (DbH B M mo cs) rest hH rfl rfl (by simp) (R := fun r H' => r = .av (.slice 34) (encTraces (getD (absD cs) k)) ∧ H' = DbH B M mo cs) ?_ ?_
  · rw [dbH_er hcs]
    simp only [List.map_nil, List.append_nil, List.map_cons, TV.er, AV.er, hx, List.reverse_nil]
    exact h
  rintro r H' ⟨rfl, rfl⟩ _
  exact ⟨_, HSub.refl _, hk⟩
end Go.Proofs.YthdgnfnalimcnaaGreatDoor
