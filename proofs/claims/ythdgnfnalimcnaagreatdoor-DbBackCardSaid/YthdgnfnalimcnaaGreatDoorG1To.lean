/- A db's bytes. No condition beyond each theorem's own. -/
import Derived.Test.YthdgnfnalimcnaaGreatDoorE5
import Derived.Test.YthdgnfnalimcnaaGreatDoorP25ToPW
import Derived.Test.YthdgnfnalimcnaaGreatDoorD7ToD8
set_option linter.unusedSimpArgs false
set_option linter.unusedVariables false
set_option linter.unusedSectionVars false
section
set_option maxRecDepth 100000
/-! A db's bytes. -/
namespace Go.Proofs.YthdgnfnalimcnaaGreatDoor
open Go Go.Ab
open Classical
variable [Sel] [SelPow]

@[simp] theorem fnok13 : fnOK Tryz.prog 13 = true := by kernel_rfl
@[simp] theorem isne13 : isNE Tryz.prog (.func 13) = false := isNE_func fnok13
noncomputable def bytS (t : Trace) : List UInt8 := if checkV t = 0 then rowV (bytesL t) else []
noncomputable def dbT (L : DbL) (k : Dig) : List (List UInt8) := (getD L k).map bytS
noncomputable def dbL (mo : Nat) (L : DbL) (ks : List Dig) : List (List UInt8) := Lib.itoa mo :: ks.flatMap (dbT L)
theorem bytS_len {t : Trace} (hd : TrD t) : (bytS t).length ≤ 6300000 := by
  unfold bytS
  split
  · rename_i h; exact bytes_len7 hd h
  · simp
theorem bytesTV_S (t : Trace) : ∃ e, bytesTV t = .tup [(.str, .s (bytS t)), (.int .i64, .i .i64 e)] := by
  unfold bytesTV bytS
  split
  · exact ⟨_, rfl⟩
  · exact ⟨_, rfl⟩
theorem bytesS_ok {t : Trace} (ht : TrP t) (hd : TrD t) : PC Tryz.prog 34 [.av (tyOf Tryz.prog 34) (encTrace t)] (bytesTV t) := bytes_ok t ht hd (bytes_len hd)
theorem cel_mem {k : Dig} : ∀ {cs : List Cel}, k ∈ cs.map (·.key) → ∃ c ∈ cs, c.key = k ∧ mfind (encD k) (cs.map celE) = some (mslT c.b c.ts.length c.cap) ∧ getD (absD cs) k = c.ts
  | [], h => by simp at h
  | c :: cs, h => by
    by_cases e : c.key = k
    · exact ⟨c, by simp, e, by simp [mfind, celE, e], by simp [getD, absD, e]⟩
    · have e' : ¬ encD c.key = encD k := fun h => e (encD_inj.1 h)
      have hm : k ∈ cs.map (·.key) := by
        rcases List.mem_cons.1 h with h | h
        · exact absurd h.symm e
        · exact h
      obtain ⟨c', h1, h2, h3, h4⟩ := cel_mem hm
      refine ⟨c', List.mem_cons_of_mem _ h1, h2, ?_, ?_⟩
      · simp only [List.map_cons, celE, mfind, e', if_false]; exact h3
      · simp only [getD, absD, List.map_cons, List.find?_cons, e, decide_false] at h4 ⊢; exact h4
theorem hget_cel : ∀ {cs : List Cel} {c : Cel}, (cs.map (·.b)).Nodup → c ∈ cs → hget (cs.map celO) c.b = some (rowO c.cap c.ts c.j)
  | [], _, _, h => by simp at h
  | x :: cs, c, hn, h => by
    rw [List.map_cons, List.nodup_cons] at hn
    rw [List.map_cons]
    show (if (celO x).1 = c.b then some (celO x).2 else hget (cs.map celO) c.b) = _
    rcases List.mem_cons.1 h with rfl | h
    · exact if_pos rfl
    · exact (if_neg fun e => hn.1 (List.mem_map.2 ⟨c, h, Eq.symm e⟩)).trans (hget_cel hn.2 h)
theorem hget_db {B M mo : Nat} {cs : List Cel} (h : (DbH B M mo cs).keys.Nodup) : hget (DbH B M mo cs) B = some (dbO M mo) ∧ hget (DbH B M mo cs) M = some (mpO (cs.map celE)) ∧ ∀ c ∈ cs, hget (DbH B M mo cs) c.b = some (rowO c.cap c.ts c.j) := by
  obtain ⟨h1, h2⟩ := dbH_ne h
  have h3 : (cs.map (·.b)).Nodup := by
    have e : (DbH B M mo cs).keys = B :: M :: cs.map (·.b) := by simp [DbH, Heap.keys, celO, Function.comp_def]
    rw [e] at h
    exact (List.nodup_cons.1 (List.nodup_cons.1 h).2).2
  refine ⟨by simp [DbH, hget], by simp [DbH, hget, h1], fun c hc => ?_⟩
  obtain ⟨h4, h5⟩ := h2 c hc
  simp only [DbH, hget, if_neg (Ne.symm h4), if_neg (Ne.symm h5)]
  exact hget_cel h3 hc
theorem digs_get (l : List Dig) (k : Nat) (h : k < l.length) : (l.map encD)[k]? = some (encD l[k]) := by simp [List.getElem?_eq_getElem h]
theorem tkO_pos (d : Nat) {q : Nat} (h : 0 < q) : tkO d q = .own d q := by
  obtain ⟨k, rfl⟩ : ∃ k, q = k + 1 := ⟨q - 1, by omega⟩; rfl
abbrev cfDby : Cfg := ⟨fun _ => false, fun _ => false⟩
set_option maxHeartbeats 16000000 in
theorem dbbytes_ok (B M mo : Nat) (cs : List Cel) (hcs : ∀ c ∈ cs, CelOK c) (hlen : cs.length ≤ 500) (h32 : ∀ c ∈ cs, c.key.length = 32) (ht : ∀ c ∈ cs, ∀ t ∈ c.ts, TrP t ∧ TrD t)
    (hN : ∀ ks', KO (cs.map (·.key)) ks' → (ks'.flatMap (dbT (absD cs))).length ≤ 700) (hmo : mo ≤ 8) :
    ACalls Tryz.prog 13 [.av .ptr (.ptr B DbT [])] (DbH B M mo cs) fun r H' => ∃ ks', KO (cs.map (·.key)) ks' ∧ r = .av .str (.s (rowV (dbL mo (absD cs) ks'))) ∧ H' = DbH B M mo cs := by
  refine ACalls.nodup fun hnd => ?_
  obtain ⟨g1, g2, g3⟩ := hget_db hnd
  have hder := dbH_er (B := B) (M := M) (mo := mo) hcs
  refine ACalls.of_vc laid mixed Tryz.func13 rfl (by kernel_rfl) cfDby (by simp [Tryz.ntmps13]) fun imm0 w0 => ?_
  (simp (maxSteps := 2000000) (disch := first | omega | assumption) [zz, -List.reduceReplicate, g1, dbO])
  refine callV_pc (num_ok mo (by omega) (by omega)) rfl rfl (by simp) (by simp [argLe, TV.er, AV.er]) ?_
  (simp (maxSteps := 2000000) (disch := first | omega | assumption) [zz, -List.reduceReplicate, g1, dbO])
  refine callV_sub (R := fun r H' => ∃ ks', KO (cs.map (·.key)) ks' ∧ r = .av DgS (encDigs ks') ∧ H' = DbH B M mo cs) (DbH B M mo cs) [] (by simp) rfl (by simp [argOK]) (by simp) ?_ ?_
  · rw [hder]
    have := dbkeys_ok B M mo cs (by omega) h32
    simpa [TV.er, AV.er] using this
  rintro r' H' ⟨ks, hko, rfl, rfl⟩ _
  refine ⟨DbH B M mo cs, by simpa using HSub.refl _, ?_⟩
  have hkl : ks.length = cs.length := by simpa using hko.1.length_eq
  obtain ⟨L, hL⟩ : ∃ L, L = absD cs := ⟨_, rfl⟩
  have hNk := hN ks hko
  rw [← hL] at hNk ⊢
  obtain ⟨E, hEd⟩ : ∃ E : Nat → List (List UInt8), E = fun n => (ks.take n).flatMap (dbT L) := ⟨_, rfl⟩
  have hE0 : E 0 = [] := by rw [hEd]; rfl
  have hEn : ∀ n (h : n < ks.length), E (n+1) = E n ++ dbT L ks[n] := fun n h => by
    rw [hEd]; simp only; rw [List.take_succ_eq_append_getElem h, List.flatMap_append]; simp
  have hEe : E ks.length = ks.flatMap (dbT L) := by rw [hEd]; simp
  have hEl : ∀ n, (E n).length ≤ 700 := fun n => by
    refine Nat.le_trans ?_ hNk
    rw [hEd]; simp only
    conv => rhs; rw [← List.take_append_drop n ks, List.flatMap_append, List.length_append]
    exact Nat.le_add_right _ _
  (simp (maxSteps := 2000000) (disch := first | omega | assumption) [zz, -List.reduceReplicate])
  refine AT.loop' (α := Nat) (fun k => St.of [(0, .av .ptr (.ptr B DbT [])), (3, .av (.slice 9) (.sl (tkO 44 (E k).length) (strs' (Lib.itoa mo :: E k)))), (19, .av DgS (encDigs ks)), (20, .av (.int .i64) (.i .i64 ks.length)), (21, .av (.int .i64) (.i .i64 k))] [] (fun j => if j = 44 then (E k).length else 0) (DbH B M mo cs))
    (fun k => k ≤ ks.length) (fun k => ks.length - k) 0 ?_ ?_ ?_
  · refine Le.of ?_ ?_ ?_ ?_ ?_ <;> simp [leTV, locsIn, hE0, tkO, strs', encDigs] <;> try omega
  · simp
  rintro k hk KL hN hE
  refine vc_sound (cf := cfDby) laid mixed _ _ _ (by kernel_rfl) ?_
  by_cases hlt : k < ks.length
  · have hlt' : (k : Int) < ks.length := by omega
    have hg := digs_get ks k hlt
    obtain ⟨c, hc, hck, hmf, hgd⟩ := cel_mem (hko.1.mem_iff.1 (List.getElem_mem hlt))
    have g4 := g3 c hc
    obtain ⟨hj, hcap, hS, h8⟩ := hcs c hc
    rw [← hL] at hgd
    have hEk := hEn k hlt
    unfold dbT at hEk
    rw [hgd] at hEk
    (simp (maxSteps := 2000000) (disch := first | omega | assumption) [zz, -List.reduceReplicate, hlt', hg, encDigs, g1, g2, dbO, mpO, hmf, mslT])
    refine AT.loop' (α := Nat) (fun j => St.of [(0, .av .ptr (.ptr B DbT [])), (3, .av (.slice 9) (.sl (tkO 44 ((E k).length + j)) (strs' (Lib.itoa mo :: (E k ++ (c.ts.take j).map bytS))))), (19, .av DgS (encDigs ks)), (20, .av (.int .i64) (.i .i64 ks.length)), (21, .av (.int .i64) (.i .i64 k)), (30, .av (.slice 34) (mslT c.b c.ts.length c.cap)), (31, .av (.int .i64) (.i .i64 c.ts.length)), (32, .av (.int .i64) (.i .i64 j))] [] (fun i => if i = 44 then (E k).length + j else 0) (DbH B M mo cs))
      (fun j => j ≤ c.ts.length) (fun j => c.ts.length - j) 0 ?_ ?_ ?_
    · refine Le.of ?_ ?_ ?_ ?_ ?_ <;> simp [leTV, locsIn, encDigs, mslT] <;> try omega
    · simp
    rintro j hj KL2 hN2 hE2
    refine vc_sound (cf := cfDby) laid mixed _ _ _ (by kernel_rfl) ?_
    by_cases hjl : j < c.ts.length
    · have hjl' : (j : Int) < c.ts.length := by omega
      have hgj := trs_getJ c.ts c.j j hjl
      obtain ⟨htp, htd⟩ := ht c hc _ (List.getElem_mem hjl)
      obtain ⟨e, he⟩ := bytesTV_S c.ts[j]
      have htk : (c.ts.take (j+1)).map bytS = (c.ts.take j).map bytS ++ [bytS c.ts[j]] := by
        rw [List.take_succ_eq_append_getElem hjl, List.map_append]; rfl
      (simp (maxSteps := 2000000) (disch := first | omega | assumption) [zz, -List.reduceReplicate, hjl', g4, rowO, hgj, mslT])
      (repeat ((with_reducible refine And.intro ?_ ?_); (· first | omega | (show barB _ _ = true; kernel_rfl) | (show rdJ _ _ _ _ _ = true; kernel_rfl) | (show tailB _ _ _ = true; kernel_rfl) | (show sftB _ _ _ = true; kernel_rfl))))
      refine callV_pc (bytesS_ok htp htd) rfl rfl (by simp) (by simp [argLe, TV.er]) ?_
      (simp (maxSteps := 2000000) (disch := first | omega | assumption) [zz, -List.reduceReplicate, he, g4, rowO, hgj])
      have hsl : ∀ x : List (List UInt8), (strs' x).length = x.length := fun x => by simp [strs']
      have hmin : min j c.ts.length = j := by omega
      have hElk := hEl k
      have htk2 : (c.ts.map bytS).take (j+1) = (c.ts.map bytS).take j ++ [bytS c.ts[j]] := by rw [← List.map_take, ← List.map_take, htk]
      rcases Nat.eq_zero_or_pos ((E k).length + j) with h0 | h0
      · obtain ⟨h01, h02⟩ : (E k).length = 0 ∧ j = 0 := by omega
        (simp (maxSteps := 2000000) (disch := first | omega | assumption) [zz, -List.reduceReplicate, h0, tkO, appendV, hsl, hmin])
        (repeat ((with_reducible refine And.intro ?_ ?_); (· first | omega | (show barB _ _ = true; kernel_rfl) | (show rdJ _ _ _ _ _ = true; kernel_rfl) | (show tailB _ _ _ = true; kernel_rfl) | (show sftB _ _ _ = true; kernel_rfl))))
        refine hN2 _ (j+1) ?_ (by omega) (by omega)
        refine Le.of ?_ ?_ ?_ ?_ ?_ <;> simp [leTV, locsIn, encDigs, mslT, htk2, strs'_app, strs'_cons, h0, tkO] <;> try omega
        all_goals first | (left; simp [strs']; done) | (intro i; by_cases hi : i = 44 <;> simp [hi] <;> omega)
      · have htp := tkO_pos 44 h0
        (simp (maxSteps := 2000000) (disch := first | omega | assumption) [zz, -List.reduceReplicate, htp, appendV, hsl, hmin])
        (repeat ((with_reducible refine And.intro ?_ ?_); (· first | omega | (show barB _ _ = true; kernel_rfl) | (show rdJ _ _ _ _ _ = true; kernel_rfl) | (show tailB _ _ _ = true; kernel_rfl) | (show sftB _ _ _ = true; kernel_rfl))))
        refine hN2 _ (j+1) ?_ (by omega) (by omega)
        refine Le.of ?_ ?_ ?_ ?_ ?_ <;> simp [leTV, locsIn, encDigs, mslT, htk2, strs'_app, strs'_cons, tkO] <;> try omega
        all_goals first | (left; simp [strs']; done) | (intro i; by_cases hi : i = 44 <;> simp [hi] <;> omega)
    · have hjl' : ¬ (j : Int) < c.ts.length := by omega
      (simp (maxSteps := 2000000) (disch := first | omega | assumption) [zz, -List.reduceReplicate, hjl'])
      refine hE2 _ _ (by simp) ?_
      clear hE2 hN2
      have hjn : j = c.ts.length := by omega
      subst hjn
      have htl : (c.ts.map bytS).take c.ts.length = c.ts.map bytS := List.take_of_length_le (by simp)
      (simp (maxSteps := 2000000) (disch := first | omega | assumption) [zz, -List.reduceReplicate])
      (repeat ((with_reducible refine And.intro ?_ ?_); (· first | omega | (show barB _ _ = true; kernel_rfl) | (show rdJ _ _ _ _ _ = true; kernel_rfl) | (show tailB _ _ _ = true; kernel_rfl) | (show sftB _ _ _ = true; kernel_rfl))))
      refine hN _ (k+1) ?_ (by omega) (by omega)
      refine Le.of ?_ ?_ ?_ ?_ ?_ <;> simp [leTV, locsIn, hEk, encDigs, htl] <;> try omega
  · have hlt' : ¬ (k : Int) < ks.length := by omega
    have hkn : k = ks.length := by omega
    (simp (maxSteps := 2000000) (disch := first | omega | assumption) [zz, -List.reduceReplicate, hlt'])
    refine hE _ _ (by simp) ?_
    subst hkn
    rw [hEe]
    have hrl : (rowV (dbL mo L ks)).length ≤ 10000000000 := by
      have h1 := rowV_le (l := dbL mo L ks) (n := 6300000) (by
        intro x hx
        rcases List.mem_cons.1 hx with rfl | hx
        · rw [itoa_nat]
          have := decDigits_le mo
          omega
        · obtain ⟨k, hk, hx⟩ := List.mem_flatMap.1 hx
          obtain ⟨c, hc, _, _, h4⟩ := cel_mem (hko.1.mem_iff.1 hk)
          rw [← hL] at h4
          unfold dbT at hx
          rw [h4] at hx
          obtain ⟨t, htm, rfl⟩ := List.mem_map.1 hx
          exact bytS_len (ht c hc t htm).2)
      have h2 : (dbL mo L ks).length ≤ 701 := by simp only [dbL, List.length_cons]; omega
      have h3 : (2 * 6300000 + 2) * (dbL mo L ks).length ≤ (2 * 6300000 + 2) * 701 := Nat.mul_le_mul_left _ h2
      omega
    have hdl : Lib.itoa mo :: ks.flatMap (dbT L) = dbL mo L ks := rfl
    rw [hdl]
    (simp (maxSteps := 2000000) (disch := first | omega | assumption) [zz, -List.reduceReplicate])
    refine callV_pc (row_ok (dbL mo L ks) (by simp only [dbL, List.length_cons]; omega) hrl) rfl rfl (by simp) (by simp [argLe, TV.er, AV.er]) ?_
    (simp (maxSteps := 2000000) (disch := first | omega | assumption) [zz, -List.reduceReplicate, Tryz.f13, hder])
    exact ⟨ks, hko, rfl⟩
end Go.Proofs.YthdgnfnalimcnaaGreatDoor
end
section
set_option maxRecDepth 100000
/-! What a db is behind a row of traces, and its bytes. -/
namespace Go.Proofs.YthdgnfnalimcnaaGreatDoor
open Go Go.Ab
open Classical
variable [Sel] [SelPow]

noncomputable def hisD (mo : Nat) (ts : List Trace) : DbL := ts.foldl (addD mo) []
theorem hisD_app (mo : Nat) (ts : List Trace) (t : Trace) : hisD mo (ts ++ [t]) = addD mo (hisD mo ts) t := by simp [hisD]
noncomputable def ofK (k : Dig) (ts : List Trace) : List Trace := ts.filter fun t => decide (t.key = k ∧ checkV t = 0)
theorem getD_fold (mo : Nat) (k : Dig) : ∀ (ts : List Trace) (L : DbL), getD (ts.foldl (addD mo) L) k = (ofK k ts).foldl (fun r x => addL mo x r) (getD L k)
  | [], L => rfl
  | x :: r, L => by
    rw [List.foldl_cons, getD_fold mo k r, getD_add]
    unfold ofK stepK
    by_cases h : x.key = k ∧ checkV x = 0
    · rw [if_pos h, List.filter_cons_of_pos (by simpa using h), List.foldl_cons]
    · rw [if_neg h, List.filter_cons_of_neg (by simpa using h)]
theorem getD_his (mo : Nat) (k : Dig) (ts : List Trace) : getD (hisD mo ts) k = (ofK k ts).foldl (fun r x => addL mo x r) [] := getD_fold mo k ts []
theorem mem_put {k k' : Dig} {v : List Trace} : ∀ {L : DbL}, k' ∈ (putD k v L).map Prod.fst ↔ k' = k ∨ k' ∈ L.map Prod.fst
  | [] => by simp [putD]
  | (q, w) :: r => by
    have ih := mem_put (k := k) (k' := k') (v := v) (L := r)
    unfold putD
    by_cases h : q = k
    · subst h; simp
    · rw [if_neg h]
      simp only [List.map_cons, List.mem_cons, ih]
      constructor
      · rintro (a | b | c)
        · exact .inr (.inl a)
        · exact .inl b
        · exact .inr (.inr c)
      · rintro (a | b | c)
        · exact .inr (.inl a)
        · exact .inl b
        · exact .inr (.inr c)
theorem nodup_put {k : Dig} {v : List Trace} : ∀ {L : DbL}, (L.map Prod.fst).Nodup → ((putD k v L).map Prod.fst).Nodup
  | [], _ => by simp [putD]
  | (q, w) :: r, h => by
    rw [List.map_cons, List.nodup_cons] at h
    unfold putD
    by_cases e : q = k
    · subst e; simp only [if_true, List.map_cons, List.nodup_cons]; exact h
    · rw [if_neg e, List.map_cons, List.nodup_cons]
      refine ⟨fun hm => ?_, nodup_put h.2⟩
      rcases mem_put.1 hm with h1 | h1
      · exact e h1
      · exact h.1 h1
theorem mem_add {mo : Nat} {L : DbL} {t : Trace} {k : Dig} : k ∈ (addD mo L t).map Prod.fst ↔ k ∈ L.map Prod.fst ∨ t.key = k ∧ checkV t = 0 := by
  unfold addD
  by_cases hc : checkV t = 0
  · rw [if_pos hc, mem_put]
    constructor
    · rintro (h | h)
      · exact .inr ⟨h.symm, hc⟩
      · exact .inl h
    · rintro (h | h)
      · exact .inr h
      · exact .inl h.1.symm
  · rw [if_neg hc]
    exact ⟨.inl, fun h => h.elim id fun h => absurd h.2 hc⟩
theorem mem_fold {mo : Nat} {k : Dig} : ∀ {ts : List Trace} {L : DbL}, k ∈ (ts.foldl (addD mo) L).map Prod.fst ↔ k ∈ L.map Prod.fst ∨ ofK k ts ≠ []
  | [], L => by simp [ofK]
  | x :: r, L => by
    rw [List.foldl_cons, mem_fold (ts := r), mem_add]
    unfold ofK
    by_cases h : x.key = k ∧ checkV x = 0
    · rw [List.filter_cons_of_pos (by simpa using h)]; simp [h]
    · rw [List.filter_cons_of_neg (by simpa using h)]
      simp [h]
theorem mem_his {mo : Nat} {k : Dig} {ts : List Trace} : k ∈ (hisD mo ts).map Prod.fst ↔ ofK k ts ≠ [] := by
  rw [hisD, mem_fold]; simp
theorem nodup_fold {mo : Nat} : ∀ {ts : List Trace} {L : DbL}, (L.map Prod.fst).Nodup → ((ts.foldl (addD mo) L).map Prod.fst).Nodup
  | [], L, h => h
  | x :: r, L, h => by
    rw [List.foldl_cons]
    refine nodup_fold ?_
    unfold addD
    split
    · exact nodup_put h
    · exact h
theorem nodup_his (mo : Nat) (ts : List Trace) : ((hisD mo ts).map Prod.fst).Nodup := nodup_fold List.nodup_nil
/-! ### the keys, in their order -/
theorem ltL_le {a b : List UInt8} : ltL b a = false ↔ Lib.compareBytes a b ≤ 0 := by
  have := cb_swap a b
  simp only [ltL, decide_eq_false_iff_not]
  omega
theorem ltL_anti {a b : List UInt8} (h1 : ltL b a = false) (h2 : ltL a b = false) : a = b := by
  rw [ltL_le] at h1 h2
  have := cb_swap a b
  exact cb_zero.1 (by omega)
theorem ltL_tot {a b : List UInt8} (h : ¬ ltL b a = false) : ltL a b = false := by
  rw [ltL_le] at h ⊢
  have := cb_swap a b
  omega
theorem ltL_leT {a b c : List UInt8} (h1 : ltL b a = false) (h2 : ltL c b = false) : ltL c a = false := by
  by_cases e : a = b
  · subst e; exact h2
  by_cases e2 : b = c
  · subst e2; exact h1
  have l1 : ltL a b = true := by
    by_cases h : ltL a b = false
    · exact absurd (ltL_anti h1 h) e
    · simpa using h
  have l2 : ltL b c = true := by
    by_cases h : ltL b c = false
    · exact absurd (ltL_anti h2 h) e2
    · simpa using h
  have l3 := ltL_trans l1 l2
  have := cb_swap a c
  simp only [ltL, decide_eq_true_eq, decide_eq_false_iff_not] at l3 ⊢
  omega
theorem KO_one {l m a b : List Dig} (h1 : KO l a) (h2 : KO m b) (hp : l.Perm m) : a = b :=
  List.Perm.eq_of_pairwise (fun x y _ _ h h' => ltL_anti h h') h1.2 h2.2 (h1.1.trans (hp.trans h2.1.symm))
def srtK (l : List Dig) : List Dig := l.mergeSort fun a b => !ltL b a
theorem KO_srt (l : List Dig) : KO l (srtK l) := by
  refine ⟨List.mergeSort_perm _ _, ?_⟩
  have := List.pairwise_mergeSort (le := fun a b : Dig => !ltL b a) (fun a b c h1 h2 => by
    simp only [Bool.not_eq_true', ] at h1 h2 ⊢; exact ltL_leT h1 h2) (fun a b => by
    by_cases h : ltL b a = false
    · simp [h]
    · simp [ltL_tot h]) l
  exact this.imp fun h => by simpa using h
theorem KO_eq {l a : List Dig} (h : KO l a) : a = srtK l := KO_one h (KO_srt l) (List.Perm.refl _)
/-! ### what is in a db came in -/
theorem putD_mem {k : Dig} {v : List Trace} {p : Dig × List Trace} : ∀ {L : DbL}, p ∈ putD k v L → p = (k, v) ∨ p ∈ L
  | [], h => by simp [putD] at h; exact .inl h
  | (q, w) :: r, h => by
    unfold putD at h
    split at h
    · rcases List.mem_cons.1 h with h | h
      · exact .inl h
      · exact .inr (List.mem_cons_of_mem _ h)
    · rcases List.mem_cons.1 h with h | h
      · exact .inr (by rw [h]; simp)
      · exact (putD_mem h).imp id (List.mem_cons_of_mem _)
theorem putD_len {k : Dig} {v : List Trace} : ∀ {L : DbL}, (putD k v L).length ≤ L.length + 1
  | [] => by simp [putD]
  | (q, w) :: r => by
    have := putD_len (k := k) (v := v) (L := r)
    unfold putD
    split
    · simp
    · simp; omega
theorem getD_mem {k : Dig} {t : Trace} {L : DbL} (h : t ∈ getD L k) : ∃ p ∈ L, t ∈ p.2 := by
  unfold getD at h
  split at h
  · rename_i p hp; exact ⟨p, List.mem_of_find?_eq_some hp, h⟩
  · simp at h
def InD (Q : Trace → Prop) (K : Dig → Prop) (L : DbL) : Prop := ∀ p ∈ L, K p.1 ∧ ∀ t ∈ p.2, Q t
theorem addD_in {Q : Trace → Prop} {K : Dig → Prop} {mo : Nat} {L : DbL} {t : Trace} (h : InD Q K L) (ht : Q t) (hk : K t.key) : InD Q K (addD mo L t) := by
  unfold addD
  split
  · intro p hp
    rcases putD_mem hp with rfl | hp
    · refine ⟨hk, fun x hx => ?_⟩
      have hx := List.mem_of_mem_take hx
      rcases List.mem_cons.1 hx with rfl | hx
      · exact ht
      · rw [kp_eq] at hx
        obtain ⟨p, hp, hx⟩ := getD_mem (List.mem_filter.1 hx).1
        exact (h p hp).2 x hx
    · exact h p hp
  · exact h
theorem fold_len {mo : Nat} : ∀ {ts : List Trace} {L : DbL}, (ts.foldl (addD mo) L).length ≤ L.length + ts.length
  | [], L => by simp
  | x :: r, L => by
    have h1 := fold_len (mo := mo) (ts := r) (L := addD mo L x)
    have h2 : (addD mo L x).length ≤ L.length + 1 := by
      unfold addD
      split
      · exact putD_len
      · omega
    rw [List.foldl_cons, List.length_cons]; omega
theorem foldl_len {mo : Nat} : ∀ (l r : List Trace), r.length ≤ mo → (l.foldl (fun r x => addL mo x r) r).length ≤ mo
  | [], r, h => h
  | x :: l, r, _ => foldl_len l _ (addL_len mo x r)
end Go.Proofs.YthdgnfnalimcnaaGreatDoor
end
