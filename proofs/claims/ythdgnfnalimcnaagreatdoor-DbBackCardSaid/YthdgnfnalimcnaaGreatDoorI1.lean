/- The db of bytes: the program. No condition beyond each theorem's own. -/
import Derived.Test.YthdgnfnalimcnaaGreatDoorI0ToP54a
import Derived.Test.YthdgnfnalimcnaaGreatDoorJ0ToI1a
set_option linter.unusedSimpArgs false
set_option linter.unusedVariables false
set_option linter.unusedSectionVars false
set_option maxRecDepth 100000
/-! The db of bytes: the program. -/
namespace Go.Proofs.YthdgnfnalimcnaaGreatDoor
open Go Go.Ab
open Classical
variable [Sel] [SelPow] [SelErr]

@[simp] theorem fnok24 : fnOK Tryz.prog 24 = true := by kernel_rfl
@[simp] theorem isne24 : isNE Tryz.prog (.func 24) = false := isNE_func fnok24
theorem callV_addR {s : St} {x : AV} {dst : Option Nat} {K : St → Prop} (t : Trace) (ht : TrP t) (mo : Nat) (hm : 1 ≤ mo) (hm8 : mo ≤ 8) (B M : Nat) (cs : List Cel) (hcs : ∀ c ∈ cs, CelOK c) (rest : Heap)
    (hH : s.H.Perm (DbH B M mo cs ++ rest)) (hx : x.er = encTrace t)
    (hk : ∀ cs', (∀ c ∈ cs', CelOK c) → absD cs' = addD mo (absD cs) t → K (({ s with H := rest ++ DbH B M mo cs' } : St).put dst (.av (.int .i64) (.i .i64 (checkV t))))) :
    callV Tryz.prog s (.av .func (.fn 11 [])) [.av .ptr (.ptr B DbT []), .av TrT x] dst K := by
  have h := dbadd_ok t ht mo hm hm8 B M cs hcs
  have e : tyOf Tryz.prog 34 = TrT := ty34
  rw [e] at h
  refine callV_sub (DbH B M mo cs) rest hH rfl rfl (by simp) (R := fun r H' => r = .av (.int .i64) (.i .i64 (checkV t)) ∧ ∃ cs', (∀ c ∈ cs', CelOK c) ∧ absD cs' = addD mo (absD cs) t ∧ H' = DbH B M mo cs') ?_ ?_
  · rw [dbH_er hcs]
    simp only [List.map_nil, List.append_nil, List.map_cons, TV.er, AV.er, hx, List.reverse_nil]
    exact h
  rintro r H' ⟨rfl, cs', h1, h2, rfl⟩ _
  exact ⟨_, HSub.of_perm List.perm_append_comm, hk cs' h1 h2⟩
theorem callV_bytesR {s : St} {dst : Option Nat} {K : St → Prop} (L : DbL) (hL : BdD L) (mo : Nat) (hm8 : mo ≤ 8) (B M : Nat) (cs : List Cel) (hcs : ∀ c ∈ cs, CelOK c) (habs : absD cs = L) (rest : Heap)
    (hH : s.H.Perm (DbH B M mo cs ++ rest))
    (hk : K (({ s with H := rest ++ DbH B M mo cs } : St).put dst (.av .str (.s (rowV (Lib.itoa mo :: (rowOf L).map bytS)))))) :
    callV Tryz.prog s (.av .func (.fn 13 [])) [.av .ptr (.ptr B DbT [])] dst K := by
  obtain ⟨hcl, hck, hc⟩ := hL.cels habs
  have h := dbbytes_ok B M mo cs hcs (by omega) (fun c h => (hc c h).1) (fun c h t ht => ⟨((hc c h).2 t ht).1.1, ((hc c h).2 t ht).2⟩) (fun ks' hko => by
    rw [habs]
    have h1 : (ks'.flatMap (dbT L)).length ≤ 8 * ks'.length := by
      have := flat_len hL.row ks'
      have e : ks'.flatMap (dbT L) = (ks'.flatMap (getD L)).map bytS := by rw [List.map_flatMap]; rfl
      rw [e, List.length_map]; exact this
    have h2 := hko.1.length_eq
    rw [List.length_map] at h2
    omega) hm8
  refine callV_sub (DbH B M mo cs) rest hH rfl rfl (by simp) (R := fun r H' => ∃ ks', KO (cs.map (·.key)) ks' ∧ r = .av .str (.s (rowV (dbL mo (absD cs) ks'))) ∧ H' = DbH B M mo cs) ?_ ?_
  · rw [dbH_er hcs]
    simpa [TV.er, AV.er] using h
  rintro r H' ⟨ks', hko, rfl, rfl⟩ _
  refine ⟨_, HSub.of_perm List.perm_append_comm, ?_⟩
  have e : rowV (dbL mo (absD cs) ks') = rowV (Lib.itoa mo :: (rowOf L).map bytS) := by rw [KO_eq hko, hck, habs, bytes_row]
  rw [e]
  exact hk
def ReadR (x : Except Int (Nat × DbL)) (r : TV) (H' : Heap) : Prop := match x with
  | .error f => r = .tup [(.ptr, .nilptr), (.int .i64, .i .i64 f)] ∧ H' = []
  | .ok (mo, L) => ∃ B M cs, r = .tup [(.ptr, .ptr B DbT []), (.int .i64, .i .i64 0)] ∧ (∀ c ∈ cs, CelOK c) ∧ absD cs = L ∧ H' = DbH B M mo cs
abbrev cfRe : Cfg := ⟨fun n => n == 13, fun _ => false⟩
set_option maxHeartbeats 16000000 in
theorem dbread_ok (b : List UInt8) (hb : b.length ≤ 1000000000) (hn : ∀ h T ts, (textsV b) = (h :: T, 0) → rallV T = .ok ts → ∀ mo : Nat, 1 ≤ mo → mo ≤ 8 → (hisD mo ts.reverse).length ≤ 85) :
    ACalls Tryz.prog 24 [.av .str (.s b)] [] (ReadR (readDB b)) := by
  obtain ⟨hl1, hl2⟩ := texts_le b
  have htx := texts_ok b hb
  obtain ⟨X, hX⟩ : ∃ X, readDB b = X := ⟨_, rfl⟩
  rw [hX]
  unfold readDB at hX
  obtain ⟨L, hL⟩ : ∃ L, textsV b = L := ⟨_, rfl⟩
  rw [hL] at htx hl1 hl2 hn hX
  obtain ⟨l, e⟩ := L
  simp only at hX hl1 hl2
  replace hl2 : l.length ≤ 1000000000 := by omega
  replace hl1 : ∀ x ∈ l, x.length ≤ 1000000000 := fun x hx => Nat.le_trans (hl1 x hx) hb
  refine ACalls.sub (R := fun r H' => ∃ H2, Ab.HSub H2 H' ∧ ReadR X r H2) ?_ fun r H' ⟨H2, h1, h2⟩ _ => ⟨H2, h1, h2⟩
  refine ACalls.of_vc laid mixed Tryz.func24 rfl (by kernel_rfl) cfRe (by simp [Tryz.ntmps24]) fun imm0 w0 => ?_
  (simp (maxSteps := 2000000) (disch := first | omega | assumption) [zz, -List.reduceReplicate])
  refine callV_pc htx rfl rfl (by simp) (by simp [argLe, TV.er, AV.er]) ?_
  by_cases he : e = 0
  rotate_left
  · rw [if_pos he] at hX
    (simp (maxSteps := 2000000) (disch := first | omega | assumption) [zz, -List.reduceReplicate, textsTV, he])
    (simp (maxSteps := 2000000) (disch := first | omega | assumption) [zz, -List.reduceReplicate, Tryz.f24, ← hX, ReadR])
    exact HSub.refl _
  subst he
  rw [if_neg (by simp)] at hX
  cases l with
  | nil =>
    simp only at hX
    (simp (maxSteps := 2000000) (disch := first | omega | assumption) [zz, -List.reduceReplicate, textsTV, strs'])
    (simp (maxSteps := 2000000) (disch := first | omega | assumption) [zz, -List.reduceReplicate, Tryz.f24, ← hX, ReadR])
    exact HSub.refl _
  | cons h T =>
  simp only at hX
  have hh := hl1 h (by simp)
  have hTm : ∀ x ∈ T, x.length ≤ 1000000000 := fun x hx => hl1 x (by simp [hx])
  have hTl : T.length ≤ 1000000000 := by simp at hl2; omega
  have hnz : ¬ (T.length : Int) + 1 = 0 := by omega
  (simp (maxSteps := 2000000) (disch := first | omega | assumption) [zz, -List.reduceReplicate, textsTV, strs', hnz])
  refine callV_pc (int_ok h hh) rfl rfl (by simp) (by simp [argLe, TV.er, AV.er]) ?_
  cases hi : intV h with
  | none =>
    rw [hi] at hX
    simp only at hX
    (simp (maxSteps := 2000000) (disch := first | omega | assumption) [zz, -List.reduceReplicate, intTV])
    (simp (maxSteps := 2000000) (disch := first | omega | assumption) [zz, -List.reduceReplicate, Tryz.f24, ← hX, ReadR])
    exact HSub.refl _
  | some n =>
  rw [hi] at hX
  simp only at hX
  by_cases hr : n < 1 ∨ 8 < n
  · rw [if_pos hr] at hX
    by_cases g2 : n < 1
    · (simp (maxSteps := 2000000) (disch := first | omega | assumption) [zz, -List.reduceReplicate, intTV, g2])
      (simp (maxSteps := 2000000) (disch := first | omega | assumption) [zz, -List.reduceReplicate, Tryz.f24, ← hX, ReadR])
      exact HSub.refl _
    · have g3 : 8 < n := by omega
      (simp (maxSteps := 2000000) (disch := first | omega | assumption) [zz, -List.reduceReplicate, intTV, g2, g3])
      (simp (maxSteps := 2000000) (disch := first | omega | assumption) [zz, -List.reduceReplicate, Tryz.f24, ← hX, ReadR])
      exact HSub.refl _
  rw [if_neg hr] at hX
  have g2 : ¬ n < 1 := by omega
  have g3 : ¬ 8 < n := by omega
  obtain ⟨mo, rfl⟩ : ∃ mo : Nat, n = mo := ⟨n.toNat, by omega⟩
  have hm1 : 1 ≤ mo := by omega
  have hm8 : mo ≤ 8 := by omega
  (simp (maxSteps := 2000000) (disch := first | omega | assumption) [zz, -List.reduceReplicate, intTV, g2, g3])
  obtain ⟨rT, hrT⟩ : ∃ rT, rT = T.map fun x => (readV x).1 := ⟨_, rfl⟩
  have hrTl : rT.length = T.length := by rw [hrT, List.length_map]
  refine ⟨by omega, ?_⟩
  refine AT.loop' (α := Nat) (fun k => St.of [(0, .av .str (.s b)), (6, .av (.int .i64) (.i .i64 mo)), (8, .av TsT (.sl (tkR 63 k) (trs (rT.take k)))), (46, .av (.slice 9) (.sl .no (strs' T))), (47, .av (.int .i64) (.i .i64 T.length)), (48, .av (.int .i64) (.i .i64 k))] [] (fun j => if j = 63 then k else 0) [])
    (fun k => k ≤ T.length ∧ ∀ x ∈ T.take k, (readV x).2 = 0) (fun k => T.length - k) 0 ?_ ?_ ?_
  · refine Le.of ?_ ?_ ?_ ?_ ?_ <;> simp [leTV, locsIn, tkR, trs, strs'] <;> try omega
    left; rw [List.take_of_length_le (by simp)]
  · simp
  rintro k ⟨hk, hpre⟩ KL hN hE
  refine vc_sound (cf := cfRe) laid mixed _ _ _ (by kernel_rfl) ?_
  by_cases hlt : k < T.length
  · have hlt' : (k : Int) < T.length := by omega
    have hg : (strs' T)[k]? = some (.s T[k]) := by simp [strs', List.getElem?_eq_getElem hlt]
    have hsl : (strs' T).length = T.length := by simp [strs']
    have hTk := hTm _ (List.getElem_mem hlt)
    have hrk : rT[k]'(by omega) = (readV T[k]).1 := by simp [hrT]
    (simp (maxSteps := 2000000) (disch := first | omega | assumption) [zz, -List.reduceReplicate, hlt', hg, hsl, hlt])
    refine callV_pc (read_ok T[k] hTk) rfl rfl (by simp) (by simp [argLe, TV.er, AV.er, strs']) ?_
    by_cases hf : (readV T[k]).2 = 0
    rotate_left
    · have hex := rallV_err hlt hpre hf
      rw [hex] at hX
      simp only at hX
      (simp (maxSteps := 2000000) (disch := first | omega | assumption) [zz, -List.reduceReplicate, readTV, hf])
      refine hE _ _ (by simp) ?_
      (simp (maxSteps := 2000000) (disch := first | omega | assumption) [zz, -List.reduceReplicate, Tryz.f24, ← hX, ReadR])
      exact HSub.refl _
    · have hpre2 : ∀ x ∈ T.take (k+1), (readV x).2 = 0 := fun x hx => by
        rw [List.take_succ_eq_append_getElem hlt] at hx
        rcases List.mem_append.1 hx with hx | hx
        · exact hpre x hx
        · simp only [List.mem_singleton] at hx; subst hx; exact hf
      have htk2 : trs (rT.take (k+1)) = trs (rT.take k) ++ [encTrace (readV T[k]).1] := by
        rw [List.take_succ_eq_append_getElem (by omega), hrk, trs_app]; rfl
      have htl : (trs (rT.take k)).length = k := by rw [trs_length, List.length_take]; omega
      rcases Nat.eq_zero_or_pos k with h0 | h0
      · subst h0
        (simp (maxSteps := 2000000) (disch := first | omega | assumption) [zz, -List.reduceReplicate, readTV, hf, tkR, appendV, encTrace])
        (repeat ((with_reducible refine And.intro ?_ ?_); (· first | omega | (show barB _ _ = true; kernel_rfl) | (show rdJ _ _ _ _ _ = true; kernel_rfl) | (show tailB _ _ _ = true; kernel_rfl) | (show sftB _ _ _ = true; kernel_rfl))))
        refine hN _ 1 ?_ ⟨by omega, hpre2⟩ (by omega)
        refine Le.of ?_ ?_ ?_ ?_ ?_ <;> simp [leTV, locsIn, htk2, tkR, encTrace] <;> try omega
      · obtain ⟨z, rfl⟩ : ∃ z, k = z + 1 := ⟨k - 1, by omega⟩
        (simp (maxSteps := 2000000) (disch := first | omega | assumption) [zz, -List.reduceReplicate, readTV, hf, tkR, appendV, htl, encTrace])
        (repeat ((with_reducible refine And.intro ?_ ?_); (· first | omega | (show barB _ _ = true; kernel_rfl) | (show rdJ _ _ _ _ _ = true; kernel_rfl) | (show tailB _ _ _ = true; kernel_rfl) | (show sftB _ _ _ = true; kernel_rfl))))
        refine hN _ (z + 1 + 1) ?_ ⟨by omega, hpre2⟩ (by omega)
        refine Le.of ?_ ?_ ?_ ?_ ?_ <;> simp [leTV, locsIn, htk2, tkR, encTrace] <;> try omega
        all_goals first | (left; simp; done) | (intro i; by_cases hi : i = 63 <;> simp [hi] <;> omega)
  have hkT : k = T.length := by omega
  subst hkT
  rw [List.take_of_length_le (by omega)] at hpre
  have hall := rallV_ok hpre
  rw [← hrT] at hall
  rw [hall] at hX
  simp only [Int.toNat_natCast] at hX
  have hlt' : ¬ (T.length : Int) < T.length := by omega
  (simp (maxSteps := 2000000) (disch := first | omega | assumption) [zz, -List.reduceReplicate, hlt'])
  refine hE _ _ (by simp) ?_
  clear hN hE
  have hsnd : ∀ t ∈ rT, TrW t ∧ TrD t := fun t ht => by
    rw [hrT] at ht
    obtain ⟨x, hx, rfl⟩ := List.mem_map.1 ht
    obtain ⟨h1, h2, _, _⟩ := readV_sound (hTm x hx) (hpre x hx)
    exact ⟨h1, h2⟩
  have htake : rT.take T.length = rT := List.take_of_length_le (by omega)
  (simp (maxSteps := 2000000) (disch := first | omega | assumption) [zz, -List.reduceReplicate, htake])
  refine callV_sub (R := fun r H' => ∃ B M, r = .tup [(.ptr, .ptr B DbT []), (.int .i64, .i .i64 0)] ∧ H' = DbH B M mo []) [] [] (by simp) rfl (by simp [argOK]) (by simp) ?_ ?_
  · exact ACalls.args (dbnew_ok mo hm1 hm8) (by simp [argLe, coC, TV.er, AV.er])
  rintro r' H' ⟨B, M, rfl, rfl⟩ hnd1
  refine ⟨DbH B M mo [], by simpa using HSub.refl _, ?_⟩
  (simp (maxSteps := 2000000) (disch := first | omega | assumption) [zz, -List.reduceReplicate])
  intro b13 hb13
  simp [DbH, Heap.keys] at hb13
  obtain ⟨hbB, hbM⟩ := hb13
  have hbB' : ¬ B = b13 := fun e => hbB e.symm
  have hbM' : ¬ M = b13 := fun e => hbM e.symm
  refine callV_sub (R := fun r H' => ∃ c, r = .av .func (.fn 85 [.ptr c TsT []]) ∧ H' = [(c, bxO rT)]) [] ((b13, .var .ptr (.ptr B DbT [])) :: DbH B M mo []) (by simp) rfl (by simp [argOK]) (by simp) ?_ ?_
  · simpa [TV.er, AV.er] using backward_ok rT
  rintro r' H' ⟨c, rfl, rfl⟩ hnd2
  refine ⟨(c, bxO rT) :: (b13, .var .ptr (.ptr B DbT [])) :: DbH B M mo [], HSub.refl _, ?_⟩
  simp [Heap.keys, DbH] at hnd2
  obtain ⟨⟨hcb, hcB, hcM⟩, _, hBM⟩ := hnd2
  have hcb' : ¬ b13 = c := fun e => hcb e.symm
  (simp (maxSteps := 2000000) (disch := first | omega | assumption) [zz, -List.reduceReplicate])
  have hder : ∀ cs, (∀ c ∈ cs, CelOK c) → (DbH B M mo cs).er = DbH B M mo cs := fun cs h => dbH_er h
  refine AT.absE (fun E => E 0 = .av .str (.s b) ∧ E 13 = .av .ptr (.ptr b13 .ptr []) ∧ E 71 = .av .func (.fn 85 [.ptr c TsT []])) (by simp) ?_
  rintro E ⟨hE0, hE13, hE71⟩
  refine AT.range (gf := 85) rfl (by simpa using hE71) rfl (by simp) ?_
  intro y D r i0 w1 hy hrec hready hpend hpar has hbo
  simp [Heap.keys, DbH] at hy
  obtain ⟨hyc, hyb, hyB, hyM⟩ := hy
  have hyb' : ¬ b13 = y := fun e => hyb e.symm
  refine ⟨(c, bxO rT) :: (y, .lrec r i0 w1) :: (b13, .var .ptr (.ptr B DbT [])) :: DbH B M mo [], [], fun t H' => t = .tup [] ∧ ∃ H1, (∃ cs, (∀ c ∈ cs, CelOK c) ∧ absD cs = hisD mo (rT.reverse.take rT.length) ∧ H1 = (y, .lrec r i0 w1) :: (b13, .var .ptr (.ptr B DbT [])) :: DbH B M mo cs) ∧ H' = (c, bxO rT) :: H1, ?_, ?_, ?_⟩
  · rw [List.append_nil]
    exact List.Perm.swap _ _ _
  · have he : Heap.er ((c, bxO rT) :: (y, .lrec r i0 w1) :: (b13, .var .ptr (.ptr B DbT [])) :: DbH B M mo []) = (c, bxO rT) :: (y, .lrec r i0 w1) :: (b13, .var .ptr (.ptr B DbT [])) :: DbH B M mo [] := by
      rw [Heap.er_cons, Heap.er_cons, Heap.er_cons, hder [] (by simp), bxO_er]; rfl
    rw [he]
    refine back1_ok (G := fun k H => ∃ cs, (∀ c ∈ cs, CelOK c) ∧ absD cs = hisD mo (rT.reverse.take k) ∧ H = (y, .lrec r i0 w1) :: (b13, .var .ptr (.ptr B DbT [])) :: DbH B M mo cs) y c rT (by omega) ?_ ?_ _ ⟨[], by simp, rfl, rfl⟩
    · rintro k H ⟨cs, hcs, _, rfl⟩
      rw [Heap.er_cons, Heap.er_cons, hder cs hcs]; rfl
    · rintro k hk2 H ⟨cs, hcs, hab, rfl⟩
      have hnx : hisD mo (rT.reverse.take (k+1)) = addD mo (hisD mo (rT.reverse.take k)) (rT[rT.length - 1 - k]'(by omega)) := by
        rw [List.take_succ_eq_append_getElem (by simpa using hk2), hisD_app, List.getElem_reverse]
      have hxm : rT[rT.length - 1 - k]'(by omega) ∈ rT := List.getElem_mem _
      obtain ⟨x, hx⟩ : ∃ x, x = rT[rT.length - 1 - k]'(by omega) := ⟨_, rfl⟩
      rw [← hx] at hnx hxm ⊢
      rw [hnx]
      have hxw := hsnd x hxm
      have hrd := YC.of_round (l := y) hrec hready (args := [.av (.int .i64) (.i .i64 (rT.length - 1 - k : Nat)), .av TrT (encTrace x)]) (H := (b13, .var .ptr (.ptr B DbT [])) :: DbH B M mo cs) (R := fun rr H' => rr = .av .bool (.b true) ∧ ∃ cs', (∀ c ∈ cs', CelOK c) ∧ absD cs' = addD mo (hisD mo (rT.reverse.take k)) x ∧ Ab.HSub ((y, .lrec r i0 w1) :: (b13, .var .ptr (.ptr B DbT [])) :: DbH B M mo cs') H') (by rw [hpar]; rfl) (by rw [hpar]; simp) (fun imm w => ?_)
      · exact YC_sub hrd fun rr H' ⟨e1, cs', e2, e3, e4⟩ _ => ⟨_, e4, e1, cs', e2, e3, rfl⟩
      rw [has, hbo, hpar]
      refine vc_sound (cf := cfRe) laid mixed _ _ _ (by kernel_rfl) ?_
      (simp (maxSteps := 2000000) (disch := first | omega | assumption) [zz, -List.reduceReplicate, roundS, withArgs, rdTV, hE13])
      refine vc_sound (cf := cfRe) laid mixed _ _ _ (by kernel_rfl) ?_
      have hrl : ∀ (p : Array Nat) (a b : Code), p = r.params → a = r.assign → b = r.body → ({ state := .ready, pending := none, fn := r.fn, tmps := r.tmps, params := p, assign := a, body := b, defers := r.defers } : Loop) = r := by
        rintro _ _ _ rfl rfl rfl; exact ready_eta hready hpend
      have her : ∀ r', (HObj.lrec r' i0 w1).er = HObj.lrec r' i0 w1 := fun _ => rfl
      (simp (maxSteps := 2000000) (disch := first | omega | assumption) [zz, -List.reduceReplicate, hyb, hyb', hE13])
      refine callV_addR x hxw.1.1 mo hm1 hm8 B M cs hcs _ (List.perm_append_comm (l₁ := [_, _])) (er_encTrace x) fun cs1 hc1 ha1 => ?_
      rw [hab] at ha1
      have hd1 := hder cs1 hc1
      (simp (maxSteps := 2000000) (disch := first | omega | assumption) [zz, -List.reduceReplicate, KBody, KEnd, Heap.er_app, hd1])
      rw [her, hrl _ _ _ hpar.symm has.symm hbo.symm]
      exact ⟨cs1, hc1, ha1, HSub.refl _⟩
  · rintro t H' ⟨rfl, H1, ⟨cs, hcs, hab, rfl⟩, rfl⟩ hnd3
    refine ⟨r, (c, bxO rT) :: (b13, .var .ptr (.ptr B DbT [])) :: DbH B M mo cs, HSub.of_perm (by rw [List.append_nil]; exact List.Perm.swap _ _ _), by rw [hready]; simp, ?_⟩
    rw [hpend]
    rw [List.take_of_length_le (by simp)] at hab
    have hinv := InvD.his hm1 (ts := rT.reverse) fun t ht => hsnd t (List.mem_reverse.1 ht)
    have hbd : BdD (hisD mo rT.reverse) := ⟨hinv.ok, hinv.mem, hn h T rT rfl hall mo hm1 hm8, fun k => Nat.le_trans (hinv.row k) hm8⟩
    have hd2 := hder cs hcs
    (simp (maxSteps := 2000000) (disch := first | omega | assumption) [zz, -List.reduceReplicate, KJump, hcb, hcb', hE13, hE0])
    refine callV_bytesR (hisD mo rT.reverse) hbd mo hm8 B M cs hcs hab _ (List.perm_append_comm (l₁ := [_, _])) ?_
    obtain ⟨bs, hbs⟩ : ∃ bs, bs = rowV (Lib.itoa mo :: (rowOf (hisD mo rT.reverse)).map bytS) := ⟨_, rfl⟩
    rw [← hbs] at hX ⊢
    by_cases hq : bs = b
    · rw [if_pos hq] at hX
      subst hq
      (simp (maxSteps := 2000000) (disch := first | omega | assumption) [zz, -List.reduceReplicate, hE0, hE13, hcb, hcb', Tryz.f24, hd2, ← hX, ReadR])
      exact ⟨DbH B M mo cs, HSub.of_sub ((List.Sublist.refl _).cons _ |>.cons _), M, cs, hcs, hab, rfl⟩
    · rw [if_neg hq] at hX
      (simp (maxSteps := 2000000) (disch := first | omega | assumption) [zz, -List.reduceReplicate, hE0, hq, Tryz.f24, ← hX, ReadR])
      exact HSub.of_sub (List.nil_sublist _)
end Go.Proofs.YthdgnfnalimcnaaGreatDoor
