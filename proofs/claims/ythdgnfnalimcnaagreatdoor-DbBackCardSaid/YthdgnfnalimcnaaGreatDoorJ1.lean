/- The law DbBack: the program. No condition beyond each theorem's own. -/
import Derived.Test.YthdgnfnalimcnaaGreatDoorJ0ToI1a
import Derived.Test.YthdgnfnalimcnaaGreatDoorI1
import Derived.Test.YthdgnfnalimcnaaGreatDoorI2ToI3
set_option linter.unusedSimpArgs false
set_option linter.unusedVariables false
set_option linter.unusedSectionVars false
set_option maxRecDepth 100000
/-! The law DbBack: the program. -/
namespace Go.Proofs.YthdgnfnalimcnaaGreatDoor
open Go Go.Ab
open Classical
variable [Sel] [SelPow] [SelErr]

@[simp] theorem fnok7 : fnOK Tryz.prog 7 = true := by kernel_rfl
@[simp] theorem isne7 : isNE Tryz.prog (.func 7) = false := isNE_func fnok7
set_option maxHeartbeats 4000000 in
theorem acts_greatP (l : List DAct) (hl : l.length ≤ 9223372036854775807) (hw : ∀ a ∈ l, TrP a.t) : PC Tryz.prog 14 [.av (.slice 42) (encDActs l)] (.av .bool (.b (greatV l))) := by
  refine PC.of <| ACalls.of_vc laid mixed Tryz.func14 rfl (by kernel_rfl) cf0 (by simp [Tryz.ntmps14]) fun imm0 w0 => ?_
  by_cases g : 40 < l.length
  · have g' : (40 : Int) < l.length := by omega
    have hr : greatV l = true := by simp [greatV, g]
    (simp (maxSteps := 2000000) (disch := first | omega | assumption) [zz, -List.reduceReplicate, encDActs, acs_len, g, g', hr, Tryz.f14])
  have g' : ¬ (40 : Int) < l.length := by omega
  (simp (maxSteps := 2000000) (disch := first | omega | assumption) [zz, -List.reduceReplicate, encDActs, acs_len, g, g'])
  refine AT.loop' (α := Nat) (fun k => St.of [(0, .av (.slice 42) (.sl .no (acs l))), (3, .av (.int .i64) (.i .i64 k))] [] (fun _ => 0) [])
    (fun k => k ≤ l.length ∧ (l.take k).any (fun a => wideTV a.t) = false) (fun k => l.length - k) 0 ?_ ?_ ?_
  · refine Le.of ?_ ?_ ?_ ?_ ?_ <;> simp [leTV, locsIn, lk_nil] <;> try omega
  · simp
  rintro k ⟨hk, hp⟩ KL hN hE
  refine vc_sound (cf := cf0) laid mixed _ _ _ (by kernel_rfl) ?_
  by_cases hlt : k < l.length
  · have hlt' : (k : Int) < l.length := by omega
    have hg := acs_get l k hlt
    have hx := hw _ (List.getElem_mem hlt)
    (simp (maxSteps := 2000000) (disch := first | omega | assumption) [zz, -List.reduceReplicate, hlt', acs_len, hg, encDAct])
    refine callV_pc hx.great rfl rfl (by simp) (by simp [argLe, TV.er]) ?_
    cases hwd : wideTV l[k].t
    · (simp (maxSteps := 2000000) (disch := first | omega | assumption) [zz, -List.reduceReplicate, hwd])
      refine hN _ (k+1) ?_ ⟨by omega, by rw [List.take_succ_eq_append_getElem hlt, List.any_append, hp]; simp [hwd]⟩ (by omega)
      refine Le.of ?_ ?_ ?_ ?_ ?_ <;> simp [leTV, locsIn, lk_nil] <;> try omega
    · have hr : greatV l = true := by
        have : l.any (fun a => wideTV a.t) = true := List.any_eq_true.2 ⟨_, List.getElem_mem hlt, hwd⟩
        simp [greatV, this]
      (simp (maxSteps := 2000000) (disch := first | omega | assumption) [zz, -List.reduceReplicate, hwd])
      refine hE _ _ (by simp) ?_
      (simp (maxSteps := 2000000) (disch := first | omega | assumption) [zz, -List.reduceReplicate, Tryz.f14, hr])
  · have hlt' : ¬ (k : Int) < l.length := by omega
    rw [List.take_of_length_le (by omega)] at hp
    have hr : greatV l = false := by simp only [greatV, hp, Bool.or_false, decide_eq_false g]
    (simp (maxSteps := 2000000) (disch := first | omega | assumption) [zz, -List.reduceReplicate, hlt', acs_len])
    refine hE _ _ (by simp) ?_
    (simp (maxSteps := 2000000) (disch := first | omega | assumption) [zz, -List.reduceReplicate, Tryz.f14, hr])
theorem row_addP {mo : Nat} {L L' : DbL} (h : OKD L) (h' : OKD L') (e : rowOf L = rowOf L') (t : Trace) : rowOf (addD mo L t) = rowOf (addD mo L' t) := by
  by_cases hc : checkV t = 0
  · rw [← rowOf_add h hc, ← rowOf_add h' hc, e]
  · rw [addD, addD, if_neg hc, if_neg hc]; exact e
theorem row_delP {L L' : DbL} (h : OKD L) (h' : OKD L') (e : rowOf L = rowOf L') (k : Dig) : rowOf (delD k L) = rowOf (delD k L') := by
  rw [← rdrop_row h, ← rdrop_row h', e]
theorem row_get {L L' : DbL} (h : OKD L) (h' : OKD L') (e : rowOf L = rowOf L') (k : Dig) : getD L k = getD L' k := by
  rw [← rof_row h, ← rof_row h', e]
abbrev cfBk : Cfg := ⟨fun _ => false, fun n => n == 1000019 || n == 2000085 || n == 2000089 || n == 1000021 || n == 2000093 || n == 2000096⟩
set_option maxHeartbeats 32000000 in
theorem dbBack_ok (most : Int) (l m : List DAct) (hl : ∀ a ∈ l, TrP a.t ∧ TrD a.t ∧ 0 ≤ a.kind ∧ a.kind < 256) (hm : ∀ a ∈ m, TrP a.t ∧ TrD a.t ∧ 0 ≤ a.kind ∧ a.kind < 256) (hln : l.length ≤ 9223372036854775807) (hmn : m.length ≤ 9223372036854775807) :
    PC Tryz.prog 7 [.av (.int .i64) (.i .i64 most), .av (.slice 42) (encDActs l), .av (.slice 42) (encDActs m)] (.av .bool (.b true)) := by
  refine PC.of <| ACalls.of_vc laid mixed Tryz.func7 rfl (by kernel_rfl) cfBk (by simp [Tryz.ntmps7]) fun imm0 w0 => ?_
  (simp (maxSteps := 2000000) (disch := first | omega | assumption) [zz, -List.reduceReplicate])
  refine callV_pc dalive_ok rfl rfl (by simp) (by simp [argLe, TV.er, AV.er]) ?_
  (simp (maxSteps := 2000000) (disch := first | omega | assumption) [zz, -List.reduceReplicate])
  refine callV_pc (acts_greatP l hln fun a ha => (hl a ha).1) rfl rfl (by simp) (by simp [argLe, TV.er, AV.er, encDActs, ers_acs]) ?_
  cases hgr : greatV l
  rotate_left
  · (simp (maxSteps := 2000000) (disch := first | omega | assumption) [zz, -List.reduceReplicate, hgr, Tryz.f7])
  (simp (maxSteps := 2000000) (disch := first | omega | assumption) [zz, -List.reduceReplicate, hgr])
  refine callV_pc (acts_greatP m hmn fun a ha => (hm a ha).1) rfl rfl (by simp) (by simp [argLe, TV.er, AV.er, encDActs, ers_acs]) ?_
  cases hgm : greatV m
  rotate_left
  · (simp (maxSteps := 2000000) (disch := first | omega | assumption) [zz, -List.reduceReplicate, hgm, Tryz.f7])
  have hl40 : l.length ≤ 40 := by
    unfold greatV at hgr
    simp at hgr
    exact hgr.1
  have hm40 : m.length ≤ 40 := by
    unfold greatV at hgm
    simp at hgm
    exact hgm.1
  by_cases hr : most < 1 ∨ 8 < most
  · by_cases g2 : most < 1
    · (simp (maxSteps := 2000000) (disch := first | omega | assumption) [zz, -List.reduceReplicate, hgm, g2, Tryz.f7])
    · have g3 : 8 < most := by omega
      (simp (maxSteps := 2000000) (disch := first | omega | assumption) [zz, -List.reduceReplicate, hgm, g2, g3, Tryz.f7])
  have g2 : ¬ most < 1 := by omega
  have g3 : ¬ 8 < most := by omega
  obtain ⟨mo, rfl⟩ : ∃ mo : Nat, most = mo := ⟨most.toNat, by omega⟩
  have hm1 : 1 ≤ mo := by omega
  have hm8 : mo ≤ 8 := by omega
  (simp (maxSteps := 2000000) (disch := first | omega | assumption) [zz, -List.reduceReplicate, hgm, g2, g3])
  refine callV_sub (R := fun r H' => ∃ B M, r = .tup [(.ptr, .ptr B DbT []), (.int .i64, .i .i64 0)] ∧ H' = DbH B M mo []) [] [] (by simp) rfl (by simp [argOK]) (by simp) ?_ ?_
  · exact ACalls.args (dbnew_ok mo hm1 hm8) (by simp [argLe, coC, TV.er, AV.er])
  rintro r' H' ⟨B, M, rfl, rfl⟩ _
  refine ⟨DbH B M mo [], by simpa using HSub.refl _, ?_⟩
  (simp (maxSteps := 2000000) (disch := first | omega | assumption) [zz, -List.reduceReplicate])
  obtain ⟨ts, hts⟩ : ∃ ts, ts = l.map (·.t) := ⟨_, rfl⟩
  have htl : ts.length = l.length := by rw [hts, List.length_map]
  have htm : ∀ t ∈ ts, TrP t ∧ TrD t := fun t ht => by
    rw [hts] at ht
    obtain ⟨a, ha, rfl⟩ := List.mem_map.1 ht
    exact ⟨(hl a ha).1, (hl a ha).2.1⟩
  refine AT.loop' (α := Nat × List Cel) (fun x => St.of [(0, .av (.int .i64) (.i .i64 mo)), (1, .av (.slice 42) (.sl .no (acs l))), (2, .av (.slice 42) (.sl .no (acs m))), (7, .av .ptr (.ptr B DbT [])), (9, .av (.int .i64) (.i .i64 x.1))] [] (fun _ => 0) (DbH B M mo x.2))
    (fun x => x.1 ≤ l.length ∧ (∀ c ∈ x.2, CelOK c) ∧ absD x.2 = hisD mo (ts.take x.1)) (fun x => l.length - x.1) (0, []) ?_ ?_ ?_
  · refine Le.of ?_ ?_ ?_ ?_ ?_ <;> simp [leTV, locsIn, encDActs] <;> try omega
  · exact ⟨by simp, by simp, by simp [hisD, absD]⟩
  rintro ⟨k, cs⟩ ⟨hk, hcs, hab⟩ KL hN hE
  simp only at hk hcs hab hN
  refine vc_sound (cf := cfBk) laid mixed _ _ _ (by kernel_rfl) ?_
  by_cases hlt : k < l.length
  · have hlt' : (k : Int) < l.length := by omega
    have hg := acs_get l k hlt
    obtain ⟨hw, hd, hk0, hk256⟩ := hl _ (List.getElem_mem hlt)
    have htk : ts.take (k+1) = ts.take k ++ [l[k].t] := by
      rw [List.take_succ_eq_append_getElem (by omega)]
      simp [hts]
    obtain ⟨a, ha⟩ : ∃ a, a = l[k] := ⟨_, rfl⟩
    rw [← ha] at hg hw hd hk0 hk256 htk
    obtain ⟨kd, x⟩ := a
    simp only at hw hd hk0 hk256 htk
    (simp (maxSteps := 2000000) (disch := first | omega | assumption) [zz, -List.reduceReplicate, hlt', acs_len, hg, encDAct])
    refine callV_add x hw mo hm1 hm8 B M cs hcs [] (by simp) (er_encTrace x) fun cs1 hc1 ha1 => ?_
    (simp (maxSteps := 2000000) (disch := first | omega | assumption) [zz, -List.reduceReplicate])
    refine hN _ (k+1, cs1) ?_ ⟨by simp only; omega, hc1, by rw [ha1, hab, htk, hisD_app]⟩ (by simp only; omega)
    refine Le.of ?_ ?_ ?_ ?_ ?_ <;> simp [leTV, locsIn, lk_nil] <;> try omega
  have hkl : k = l.length := by omega
  subst hkl
  rw [List.take_of_length_le (by omega)] at hab
  have hlt' : ¬ (l.length : Int) < l.length := by omega
  (simp (maxSteps := 2000000) (disch := first | omega | assumption) [zz, -List.reduceReplicate, hlt', acs_len])
  refine hE _ _ (by simp) ?_
  clear hN hE
  have hinv := InvD.hisP hm1 htm
  have hbd := hinv.bd (by omega) hm8
  have hbt : ∀ t ∈ ts, TrD t := fun t ht => (htm t ht).2
  have hrb := read_back hm1 hm8 hbt
  have hbl := bytD_len hm1 hm8 hbt (by omega)
  have hrow := row_back hm1 ts
  have hlb := len_back hm1 ts
  (simp (maxSteps := 2000000) (disch := first | omega | assumption) [zz, -List.reduceReplicate])
  refine callV_bytesL (hisD mo ts) hbd mo hm8 B M cs hcs hab [] (by simp) ?_
  rw [show rowV (Lib.itoa mo :: (rowOf (hisD mo ts)).map bytS) = bytD mo (hisD mo ts) from rfl]
  have hinv2 : InvD 40 mo (hisD mo (rowOf (hisD mo ts)).reverse) := by
    have h := InvD.hisP hm1 (ts := (rowOf (hisD mo ts)).reverse) fun t ht => htm t (rowOf_mem (List.mem_reverse.1 ht)).1
    exact ⟨h.ok, h.mem, by rw [hlb]; exact Nat.le_trans hinv.len (by omega), h.row⟩
  have hdr := dbread_ok (bytD mo (hisD mo ts)) hbl fun h T us e1 e2 mo' hm1' hm8' => by
    have h1 := fold_len (mo := mo') (ts := us.reverse) (L := [])
    obtain ⟨h2, _⟩ := rallV_all e2
    have h3 := texts_row e1
    have h4 : Lib.itoa mo :: (rowOf (hisD mo ts)).map bytS = h :: T := rowV_inj (h3.symm ▸ rfl)
    have h5 := row_len hm1 ts
    have h6 := congrArg List.length h4
    have h7 : us.length = T.length := by rw [h2, List.length_map]
    rw [List.length_cons, List.length_cons, List.length_map] at h6
    rw [List.length_reverse] at h1
    have h8 : (hisD mo' us.reverse).length ≤ us.length := by unfold hisD; simpa using h1
    omega
  rw [hrb] at hdr
  obtain ⟨L1, hL1⟩ : ∃ L1, L1 = hisD mo ts := ⟨_, rfl⟩
  obtain ⟨L2, hL2⟩ : ∃ L2, L2 = hisD mo (rowOf (hisD mo ts)).reverse := ⟨_, rfl⟩
  rw [← hL2] at hdr hinv2 hrow
  rw [← hL1] at hab hinv hbd hrow hdr hbl ⊢
  obtain ⟨bb, hbb⟩ : ∃ bb, bb = bytD mo L1 := ⟨_, rfl⟩
  rw [← hbb] at hdr hbl ⊢
  (simp (maxSteps := 2000000) (disch := first | omega | assumption) [zz, -List.reduceReplicate])
  refine callV_sub (R := ReadR (.ok (mo, L2))) [] (DbH B M mo cs) (by simp) rfl (by simp [argOK]) (by simp) ?_ ?_
  · simpa [TV.er, AV.er] using hdr
  rintro r H' ⟨B2, M2, cs2, rfl, hcs2, hab2, rfl⟩ _
  refine ⟨DbH B2 M2 mo cs2 ++ DbH B M mo cs, HSub.refl _, ?_⟩
  have hbd2 := hinv2.bd (by omega) hm8
  (simp (maxSteps := 2000000) (disch := first | omega | assumption) [zz, -List.reduceReplicate])
  refine callV_bytesL L2 hbd2 mo hm8 B2 M2 cs2 hcs2 hab2 (DbH B M mo cs) (List.Perm.refl _) ?_
  have hb2 : rowV (Lib.itoa mo :: (rowOf L2).map bytS) = bb := by rw [hrow, hbb]; rfl
  rw [hb2]
  (simp (maxSteps := 2000000) (disch := first | omega | assumption) [zz, -List.reduceReplicate])
  have hder : ∀ B M cs, (∀ c ∈ cs, CelOK c) → (DbH B M mo cs).er = DbH B M mo cs := fun B M cs h => dbH_er h
  have hd1 := hder B M cs hcs
  have hd2 := hder B2 M2 cs2 hcs2
  refine AT.loop' (α := Nat × (List Cel × DbL) × (List Cel × DbL)) (fun x => St.of [(2, .av (.slice 42) (.sl .no (acs m))), (7, .av .ptr (.ptr B DbT [])), (11, .av .ptr (.ptr B2 DbT [])), (13, .av (.int .i64) (.i .i64 x.1))] [] (fun _ => 0) (DbH B2 M2 mo x.2.2.1 ++ DbH B M mo x.2.1.1))
    (fun x => x.1 ≤ m.length ∧ (∀ c ∈ x.2.1.1, CelOK c) ∧ absD x.2.1.1 = x.2.1.2 ∧ InvD (40 + x.1) mo x.2.1.2 ∧ (∀ c ∈ x.2.2.1, CelOK c) ∧ absD x.2.2.1 = x.2.2.2 ∧ InvD (40 + x.1) mo x.2.2.2 ∧ rowOf x.2.1.2 = rowOf x.2.2.2) (fun x => m.length - x.1) (0, (cs, L1), (cs2, L2)) ?_ ?_ ?_
  · refine Le.of ?_ ?_ ?_ ?_ ?_ <;> simp [leTV, locsIn, lk_nil] <;> try omega
  · exact ⟨by simp, hcs, hab, hinv.mono (by omega), hcs2, hab2, hinv2, hrow.symm⟩
  clear hcs hab hinv hcs2 hab2 hinv2 hrow hbd hbd2 hd1 hd2
  rintro ⟨k, ⟨cs, L1⟩, ⟨cs2, L2⟩⟩ ⟨hk, hcs, hab, hinv, hcs2, hab2, hinv2, hrow⟩ KL hN hE
  simp only at hk hcs hab hinv hcs2 hab2 hinv2 hrow hN
  refine vc_sound (cf := cfBk) laid mixed _ _ _ (by kernel_rfl) ?_
  by_cases hlt : k < m.length
  · have hlt' : (k : Int) < m.length := by omega
    have hg := acs_get m k hlt
    obtain ⟨hw, hd, hk0, hk256⟩ := hm _ (List.getElem_mem hlt)
    obtain ⟨a, ha⟩ : ∃ a, a = m[k] := ⟨_, rfl⟩
    rw [← ha] at hg hw hd hk0 hk256
    obtain ⟨kd, x⟩ := a
    simp only at hw hd hk0 hk256
    have hnk : ∀ {cs : List Cel} {L : DbL}, OKD L → absD cs = L → (cs.map (·.key)).Nodup := fun h e => by
      have := h.1
      rw [← e] at this
      simpa [absD, Function.comp_def] using this
    have hgk := row_get hinv.ok hinv2.ok hrow x.key
    by_cases hkd : kd.tmod 4 = 3
    · (simp (maxSteps := 2000000) (disch := first | omega | assumption) [zz, -List.reduceReplicate, hlt', acs_len, hg, encDAct, encTrace, hkd])
      refine vcSoft.of [0, 1, 2, 4, 5, 6, 3, 7, 8] [4, 5, 6] (by kernel_rfl) ?_
      (simp (maxSteps := 2000000) (disch := first | omega | assumption) [zz, -List.reduceReplicate])
      (repeat ((with_reducible refine And.intro ?_ ?_); (· first | omega | (show barB _ _ = true; kernel_rfl) | (show rdJ _ _ _ _ _ = true; kernel_rfl) | (show tailB _ _ _ = true; kernel_rfl) | (show sftB _ _ _ = true; kernel_rfl))))
      refine callV_drop x.key mo B M cs hcs (hnk hinv.ok hab) (DbH B2 M2 mo cs2) List.perm_append_comm (er_encD _) fun cs1 hc1 ha1 => ?_
      rw [hab] at ha1 ⊢
      (simp (maxSteps := 2000000) (disch := first | omega | assumption) [zz, -List.reduceReplicate])
      (repeat ((with_reducible refine And.intro ?_ ?_); (· first | omega | (show barB _ _ = true; kernel_rfl) | (show rdJ _ _ _ _ _ = true; kernel_rfl) | (show tailB _ _ _ = true; kernel_rfl) | (show sftB _ _ _ = true; kernel_rfl))))
      refine callV_drop x.key mo B2 M2 cs2 hcs2 (hnk hinv2.ok hab2) (DbH B M mo cs1) List.perm_append_comm (er_encD _) fun cs3 hc3 ha3 => ?_
      rw [hab2] at ha3 ⊢
      rw [hgk]
      (simp (maxSteps := 2000000) (disch := first | omega | assumption) [zz, -List.reduceReplicate])
      have hi1 := hinv.del x.key
      have hi2 := hinv2.del x.key
      have hrw := row_delP hinv.ok hinv2.ok hrow x.key
      have hgk2 := row_get hi1.ok hi2.ok hrw x.key
      have hoR := dofR x.key mo B M cs1 hc1
      have hoR2 := dofR x.key mo B2 M2 cs3 hc3
      rw [ha1, hgk2] at hoR
      rw [ha3] at hoR2
      have hgw := (hi2.bd (by omega) hm8).get (k := x.key)
      have hgl := (hi2.bd (by omega) hm8).row x.key
      obtain ⟨w, hw2⟩ : ∃ w, w = getD (delD x.key L2) x.key := ⟨_, rfl⟩
      rw [← hw2] at hgw hgl hoR hoR2
      (repeat ((with_reducible refine And.intro ?_ ?_); (· first | omega | (show barB _ _ = true; kernel_rfl) | (show rdJ _ _ _ _ _ = true; kernel_rfl) | (show tailB _ _ _ = true; kernel_rfl) | (show sftB _ _ _ = true; kernel_rfl))))
      refine callD_read (DbH B M mo cs1) (DbH B2 M2 mo cs3) List.perm_append_comm hoR rfl rfl (by simp) (by simp [argLe, TV.er, AV.er]) ?_
      (simp (maxSteps := 2000000) (disch := first | omega | assumption) [zz, -List.reduceReplicate])
      (repeat ((with_reducible refine And.intro ?_ ?_); (· first | omega | (show barB _ _ = true; kernel_rfl) | (show rdJ _ _ _ _ _ = true; kernel_rfl) | (show tailB _ _ _ = true; kernel_rfl) | (show sftB _ _ _ = true; kernel_rfl))))
      refine callD_read (DbH B2 M2 mo cs3) (DbH B M mo cs1) (List.Perm.refl _) hoR2 rfl rfl (by simp) (by simp [argLe, TV.er, AV.er]) ?_
      (simp (maxSteps := 2000000) (disch := first | omega | assumption) [zz, -List.reduceReplicate])
      (repeat ((with_reducible refine And.intro ?_ ?_); (· first | omega | (show barB _ _ = true; kernel_rfl) | (show rdJ _ _ _ _ _ = true; kernel_rfl) | (show tailB _ _ _ = true; kernel_rfl) | (show sftB _ _ _ = true; kernel_rfl))))
      refine callD_pc (sameTr_ok w w (fun y hy => (hgw y hy).1.ok) (fun y hy => (hgw y hy).1.ok) (by omega) (by omega)) rfl rfl (by simp) (by simp [argLe, TV.er, AV.er, encTraces_trs']) ?_
      (simp (maxSteps := 2000000) (disch := first | omega | assumption) [zz, -List.reduceReplicate])
      (repeat ((with_reducible refine And.intro ?_ ?_); (· first | omega | (show barB _ _ = true; kernel_rfl) | (show rdJ _ _ _ _ _ = true; kernel_rfl) | (show tailB _ _ _ = true; kernel_rfl) | (show sftB _ _ _ = true; kernel_rfl))))
      refine hN _ (k+1, (cs1, delD x.key L1), (cs3, delD x.key L2)) ?_ ⟨by simp only; omega, hc1, ha1, hi1, hc3, ha3, hi2, hrw⟩ (by simp only; omega)
      refine Le.of ?_ ?_ ?_ ?_ ?_ <;> simp [leTV, locsIn, lk_nil] <;> try omega
    · (simp (maxSteps := 2000000) (disch := first | omega | assumption) [zz, -List.reduceReplicate, hlt', acs_len, hg, encDAct, encTrace, hkd])
      refine vcSoft.of [0, 1, 3, 4, 2, 5, 6] [3, 4] (by kernel_rfl) ?_
      (simp (maxSteps := 2000000) (disch := first | omega | assumption) [zz, -List.reduceReplicate])
      (repeat ((with_reducible refine And.intro ?_ ?_); (· first | omega | (show barB _ _ = true; kernel_rfl) | (show rdJ _ _ _ _ _ = true; kernel_rfl) | (show tailB _ _ _ = true; kernel_rfl) | (show sftB _ _ _ = true; kernel_rfl))))
      refine callV_add x hw mo hm1 hm8 B M cs hcs (DbH B2 M2 mo cs2) List.perm_append_comm (er_encTrace x) fun cs1 hc1 ha1 => ?_
      rw [hab] at ha1
      (simp (maxSteps := 2000000) (disch := first | omega | assumption) [zz, -List.reduceReplicate])
      (repeat ((with_reducible refine And.intro ?_ ?_); (· first | omega | (show barB _ _ = true; kernel_rfl) | (show rdJ _ _ _ _ _ = true; kernel_rfl) | (show tailB _ _ _ = true; kernel_rfl) | (show sftB _ _ _ = true; kernel_rfl))))
      refine callV_add x hw mo hm1 hm8 B2 M2 cs2 hcs2 (DbH B M mo cs1) List.perm_append_comm (er_encTrace x) fun cs3 hc3 ha3 => ?_
      rw [hab2] at ha3
      (simp (maxSteps := 2000000) (disch := first | omega | assumption) [zz, -List.reduceReplicate])
      have hi1 := hinv.addP hm1 hw hd
      have hi2 := hinv2.addP hm1 hw hd
      have hrw := row_addP (mo := mo) hinv.ok hinv2.ok hrow x
      have hgk2 := row_get hi1.ok hi2.ok hrw x.key
      have hoR := dofR x.key mo B M cs1 hc1
      have hoR2 := dofR x.key mo B2 M2 cs3 hc3
      rw [ha1, hgk2] at hoR
      rw [ha3] at hoR2
      have hgw := (hi2.bd (by omega) hm8).get (k := x.key)
      have hgl := (hi2.bd (by omega) hm8).row x.key
      obtain ⟨w, hw2⟩ : ∃ w, w = getD (addD mo L2 x) x.key := ⟨_, rfl⟩
      rw [← hw2] at hgw hgl hoR hoR2
      (repeat ((with_reducible refine And.intro ?_ ?_); (· first | omega | (show barB _ _ = true; kernel_rfl) | (show rdJ _ _ _ _ _ = true; kernel_rfl) | (show tailB _ _ _ = true; kernel_rfl) | (show sftB _ _ _ = true; kernel_rfl))))
      refine callD_read (DbH B M mo cs1) (DbH B2 M2 mo cs3) List.perm_append_comm hoR rfl rfl (by simp) (by simp [argLe, TV.er, AV.er]) ?_
      (simp (maxSteps := 2000000) (disch := first | omega | assumption) [zz, -List.reduceReplicate])
      (repeat ((with_reducible refine And.intro ?_ ?_); (· first | omega | (show barB _ _ = true; kernel_rfl) | (show rdJ _ _ _ _ _ = true; kernel_rfl) | (show tailB _ _ _ = true; kernel_rfl) | (show sftB _ _ _ = true; kernel_rfl))))
      refine callD_read (DbH B2 M2 mo cs3) (DbH B M mo cs1) (List.Perm.refl _) hoR2 rfl rfl (by simp) (by simp [argLe, TV.er, AV.er]) ?_
      (simp (maxSteps := 2000000) (disch := first | omega | assumption) [zz, -List.reduceReplicate])
      (repeat ((with_reducible refine And.intro ?_ ?_); (· first | omega | (show barB _ _ = true; kernel_rfl) | (show rdJ _ _ _ _ _ = true; kernel_rfl) | (show tailB _ _ _ = true; kernel_rfl) | (show sftB _ _ _ = true; kernel_rfl))))
      refine callD_pc (sameTr_ok w w (fun y hy => (hgw y hy).1.ok) (fun y hy => (hgw y hy).1.ok) (by omega) (by omega)) rfl rfl (by simp) (by simp [argLe, TV.er, AV.er, encTraces_trs']) ?_
      (simp (maxSteps := 2000000) (disch := first | omega | assumption) [zz, -List.reduceReplicate])
      (repeat ((with_reducible refine And.intro ?_ ?_); (· first | omega | (show barB _ _ = true; kernel_rfl) | (show rdJ _ _ _ _ _ = true; kernel_rfl) | (show tailB _ _ _ = true; kernel_rfl) | (show sftB _ _ _ = true; kernel_rfl))))
      refine hN _ (k+1, (cs1, addD mo L1 x), (cs3, addD mo L2 x)) ?_ ⟨by simp only; omega, hc1, ha1, hi1, hc3, ha3, hi2, hrw⟩ (by simp only; omega)
      refine Le.of ?_ ?_ ?_ ?_ ?_ <;> simp [leTV, locsIn, lk_nil] <;> try omega
  · have hlt' : ¬ (k : Int) < m.length := by omega
    (simp (maxSteps := 2000000) (disch := first | omega | assumption) [zz, -List.reduceReplicate, hlt', acs_len])
    refine hE _ _ (by simp) ?_
    clear hN hE
    (simp (maxSteps := 2000000) (disch := first | omega | assumption) [zz, -List.reduceReplicate])
    refine callV_bytesL L1 (hinv.bd (by omega) hm8) mo hm8 B M cs hcs hab (DbH B2 M2 mo cs2) List.perm_append_comm ?_
    (simp (maxSteps := 2000000) (disch := first | omega | assumption) [zz, -List.reduceReplicate])
    refine callV_bytesL L2 (hinv2.bd (by omega) hm8) mo hm8 B2 M2 cs2 hcs2 hab2 (DbH B M mo cs) List.perm_append_comm ?_
    rw [hrow]
    (simp (maxSteps := 2000000) (disch := first | omega | assumption) [zz, -List.reduceReplicate, Tryz.f7])
end Go.Proofs.YthdgnfnalimcnaaGreatDoor
