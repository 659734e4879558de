/- The document's bytes of a row; a key's traces dropped. No condition beyond each theorem's own. -/
import Derived.Test.YthdgnfnalimcnaaGreatDoorH0To
import Derived.Test.YthdgnfnalimcnaaGreatDoorP40To3
import Derived.Test.YthdgnfnalimcnaaGreatDoorD9aTo0
set_option linter.unusedSimpArgs false
set_option linter.unusedVariables false
set_option linter.unusedSectionVars false
section
set_option maxRecDepth 100000
/-! The document's bytes of a row; a key's traces dropped. -/
namespace Go.Proofs.YthdgnfnalimcnaaGreatDoor
open Go Go.Ab
open Classical
variable [Sel] [SelPow]

@[simp] theorem fnok41 : fnOK Tryz.prog 41 = true := by kernel_rfl
@[simp] theorem isne41 : isNE Tryz.prog (.func 41) = false := isNE_func fnok41
@[simp] theorem fnok15 : fnOK Tryz.prog 15 = true := by kernel_rfl
@[simp] theorem isne15 : isNE Tryz.prog (.func 15) = false := isNE_func fnok15
theorem TrW.bytes {t : Trace} (h : TrW t) (hd : TrD t) : PC Tryz.prog 73 [.av (tyOf Tryz.prog 34) (encTrace t)] (bytesTV t) := rbytes_ok t h.1 hd h.2.1 h.2.2 (bytes_len hd)
theorem cel_del (k : Dig) : ∀ cs : List Cel, (cs.map (·.key)).Nodup → ∃ cs', mdel (encD k) (cs.map celE) = cs'.map celE ∧ (cs'.map celO).Sublist (cs.map celO) ∧ (∀ c ∈ cs', c ∈ cs) ∧ absD cs' = delD k (absD cs)
  | [], _ => ⟨[], rfl, List.Sublist.refl _, fun c h => h, rfl⟩
  | c :: cs, h => by
    rw [List.map_cons, List.nodup_cons] at h
    by_cases e : c.key = k
    · refine ⟨cs, ?_, List.sublist_cons_self _ _, fun c h => List.mem_cons_of_mem _ h, ?_⟩
      · simp [mdel, celE, e]
      · have : ∀ p ∈ absD cs, decide (p.1 ≠ k) = true := fun p hp => by
          obtain ⟨c', hc', rfl⟩ := List.mem_map.1 hp
          have : ¬ c'.key = k := fun e2 => h.1 (e ▸ e2 ▸ List.mem_map.2 ⟨c', hc', rfl⟩)
          simpa using this
        show absD cs = delD k ((c.key, c.ts) :: absD cs)
        unfold delD
        rw [List.filter_cons_of_neg (by simp [e]), List.filter_eq_self.2 this]
    · obtain ⟨cs', h1, h2, h3, h4⟩ := cel_del k cs h.2
      have e' : ¬ encD c.key = encD k := fun h => e (encD_inj.1 h)
      refine ⟨c :: cs', ?_, h2.cons_cons _, fun x hx => ?_, ?_⟩
      · simp only [List.map_cons, celE, mdel, e', if_false]
        congr 1
      · rcases List.mem_cons.1 hx with rfl | hx
        · simp
        · exact List.mem_cons_of_mem _ (h3 x hx)
      · show (c.key, c.ts) :: absD cs' = delD k ((c.key, c.ts) :: absD cs)
        unfold delD at h4 ⊢
        rw [List.filter_cons_of_pos (by simpa using e), h4]
theorem celO_er {cs : List Cel} (hcs : ∀ c ∈ cs, CelOK c) : Heap.er (cs.map celO) = cs.map celO := by
  induction cs with
  | nil => rfl
  | cons c r ih =>
    rw [List.map_cons]
    show (c.b, (rowO c.cap c.ts c.j).er) :: Heap.er (r.map celO) = _
    rw [ih fun c hc => hcs c (List.mem_cons_of_mem _ hc), rowO_er (hcs c (by simp)).1]; rfl
theorem hset_db {B M mo : Nat} {cs : List Cel} (h : B ≠ M) (o : HObj) : hset (DbH B M mo cs) M o = (B, dbO M mo) :: (M, o) :: cs.map celO := by
  simp [DbH, hset, h]
abbrev cfDr : Cfg := ⟨fun _ => false, fun n => n == 1000004⟩
set_option maxHeartbeats 4000000 in
theorem dbdrop_ok (k : Dig) (mo : Nat) (B M : Nat) (cs : List Cel) (hcs : ∀ c ∈ cs, CelOK c) (hnk : (cs.map (·.key)).Nodup) :
    ACalls Tryz.prog 15 [.av .ptr (.ptr B DbT []), .av (tyOf Tryz.prog 30) (encD k)] (DbH B M mo cs)
      fun r H' => r = .av (.int .i64) (.i .i64 ((getD (absD cs) k).length : Nat)) ∧ ∃ cs', (∀ c ∈ cs', CelOK c) ∧ absD cs' = delD k (absD cs) ∧ H' = DbH B M mo cs' := by
  refine ACalls.nodup fun hnd => ?_
  obtain ⟨hBM, hbs⟩ := dbH_ne hnd
  obtain ⟨g1, g2, g3⟩ := hget_db hnd
  obtain ⟨cs', c1, c2, c3, c4⟩ := cel_del k cs hnk
  have hok : ∀ c ∈ cs', CelOK c := fun c h => hcs c (c3 c h)
  have hsub : HSub (DbH B M mo cs') ((B, dbO M mo) :: (M, mpO (cs'.map celE)) :: cs.map celO) := HSub.of_sub ((c2.cons_cons _).cons_cons _)
  have hder := dbH_er (B := B) (M := M) (mo := mo) hok
  have hs := fun o => hset_db (B := B) (M := M) (mo := mo) (cs := cs) hBM o
  have hmp : HObj.map 30 22 (cs'.map celE) = mpO (cs'.map celE) := rfl
  refine ACalls.sub (R := fun r H' => r = .av (.int .i64) (.i .i64 ((getD (absD cs) k).length : Nat)) ∧ H' = (B, dbO M mo) :: (M, mpO (cs'.map celE)) :: cs.map celO) ?_ ?_
  rotate_left
  · rintro r H' ⟨rfl, rfl⟩ _
    exact ⟨_, hsub, rfl, cs', hok, c4, rfl⟩
  have ho := celO_er hcs
  have hme : (cs'.map celE).map (fun p => (p.1.er, p.2.er)) = cs'.map celE := EK_cel cs'
  rcases cel_find k cs with ⟨h1, h2, h3, h4⟩ | ⟨cs1, c, cs2, h0, hk, h1, h2, h3, h4⟩
  · refine ACalls.of_vc laid mixed Tryz.func15 rfl (by kernel_rfl) cfDr (by simp [Tryz.ntmps15]) fun imm0 w0 => ?_
    (simp (maxSteps := 2000000) (disch := first | omega | assumption) [zz, -List.reduceReplicate, g1, g2, dbO, mpO, h1, zN])
    (repeat ((with_reducible refine And.intro ?_ ?_); (· first | omega | (show barB _ _ = true; kernel_rfl) | (show rdJ _ _ _ _ _ = true; kernel_rfl) | (show tailB _ _ _ = true; kernel_rfl) | (show sftB _ _ _ = true; kernel_rfl))))
    refine vcSoft.of [0, 1, 2, 3, 4, 5] [] (by kernel_rfl) ?_
    (simp (maxSteps := 2000000) (disch := first | omega | assumption) [zz, -List.reduceReplicate, g1, g2, dbO, mpO, h1, zN, c1, hs, h2, Tryz.f15, ho, hme])
    exact (show rdJ _ _ _ _ _ = true by kernel_rfl)
  · refine ACalls.of_vc laid mixed Tryz.func15 rfl (by kernel_rfl) cfDr (by simp [Tryz.ntmps15]) fun imm0 w0 => ?_
    (simp (maxSteps := 2000000) (disch := first | omega | assumption) [zz, -List.reduceReplicate, g1, g2, dbO, mpO, h1, mslT])
    (repeat ((with_reducible refine And.intro ?_ ?_); (· first | omega | (show barB _ _ = true; kernel_rfl) | (show rdJ _ _ _ _ _ = true; kernel_rfl) | (show tailB _ _ _ = true; kernel_rfl) | (show sftB _ _ _ = true; kernel_rfl))))
    refine vcSoft.of [0, 1, 2, 3, 4, 5] [] (by kernel_rfl) ?_
    (simp (maxSteps := 2000000) (disch := first | omega | assumption) [zz, -List.reduceReplicate, g1, g2, dbO, mpO, h1, mslT, c1, hs, h2, Tryz.f15, ho, hme])
    exact (show rdJ _ _ _ _ _ = true by kernel_rfl)
end Go.Proofs.YthdgnfnalimcnaaGreatDoor
end
section
set_option maxRecDepth 100000
/-! Does a db answer as a row says? -/
namespace Go.Proofs.YthdgnfnalimcnaaGreatDoor
open Go Go.Ab
open Classical
variable [Sel] [SelPow]

@[simp] theorem fnok20 : fnOK Tryz.prog 20 = true := by kernel_rfl
@[simp] theorem isne20 : isNE Tryz.prog (.func 20) = false := isNE_func fnok20
structure BdD (L : DbL) : Prop where
  ok : OKD L
  mem : InD (fun t => TrW t ∧ TrD t) (fun k => k.length = 32) L
  len : L.length ≤ 85
  row : ∀ k, (getD L k).length ≤ 8
theorem flat_len {f : Dig → List Trace} (hf : ∀ k, (f k).length ≤ 8) : ∀ ks : List Dig, (ks.flatMap f).length ≤ 8 * ks.length
  | [] => by simp
  | k :: ks => by
    have ih := flat_len hf ks
    have h1 := hf k
    rw [List.flatMap_cons, List.length_append, List.length_cons, Nat.mul_add]; omega
theorem BdD.get {L : DbL} (h : BdD L) {k : Dig} : ∀ t ∈ getD L k, TrW t ∧ TrD t := fun t ht => by
  obtain ⟨p, hp, ht⟩ := getD_mem ht
  exact (h.mem p hp).2 t ht
theorem BdD.cels {L : DbL} (h : BdD L) {cs : List Cel} (habs : absD cs = L) : cs.length ≤ 85 ∧ cs.map (·.key) = L.map Prod.fst ∧ ∀ c ∈ cs, c.key.length = 32 ∧ ∀ t ∈ c.ts, TrW t ∧ TrD t := by
  refine ⟨?_, by rw [← habs]; simp [absD, Function.comp_def], fun c hc => ?_⟩
  · have : (absD cs).length = cs.length := by simp [absD]
    rw [habs] at this
    have := h.len; omega
  · have : (c.key, c.ts) ∈ L := by rw [← habs]; exact List.mem_map.2 ⟨c, hc, rfl⟩
    exact h.mem _ this
set_option maxHeartbeats 4000000 in
theorem callV_bytesL {s : St} {dst : Option Nat} {K : St → Prop} (L : DbL) (hL : BdD L) (mo : Nat) (hm8 : mo ≤ 8) (B M : Nat) (cs : List Cel) (hcs : ∀ c ∈ cs, CelOK c) (habs : absD cs = L) (rest : Heap)
    (hH : s.H.Perm (DbH B M mo cs ++ rest))
    (hk : K (({ s with H := DbH B M mo cs ++ rest } : St).put dst (.av .str (.s (rowV (Lib.itoa mo :: (rowOf L).map bytS)))))) :
    callV Tryz.prog s (.av .func (.fn 13 [])) [.av .ptr (.ptr B DbT [])] dst K := by
  obtain ⟨hcl, hck, hc⟩ := hL.cels habs
  have h := dbbytes_ok B M mo cs hcs (by omega) (fun c h => (hc c h).1) (fun c h t ht => ⟨((hc c h).2 t ht).1.1, ((hc c h).2 t ht).2⟩) (fun ks' hko => by
    rw [habs]
    have h1 : (ks'.flatMap (dbT L)).length ≤ 8 * ks'.length := by
      have := flat_len hL.row ks'
      have e : ks'.flatMap (dbT L) = (ks'.flatMap (getD L)).map bytS := by rw [List.map_flatMap]; rfl
      rw [e, List.length_map]; exact this
    have h2 := hko.1.length_eq
    rw [List.length_map] at h2
    omega) hm8
  refine callV_sub (DbH B M mo cs) rest hH rfl rfl (by simp) (R := fun r H' => ∃ ks', KO (cs.map (·.key)) ks' ∧ r = .av .str (.s (rowV (dbL mo (absD cs) ks'))) ∧ H' = DbH B M mo cs) ?_ ?_
  · rw [dbH_er hcs]
    simpa [TV.er, AV.er] using h
  rintro r H' ⟨ks', hko, rfl, rfl⟩ _
  refine ⟨_, HSub.refl _, ?_⟩
  have e : rowV (dbL mo (absD cs) ks') = rowV (Lib.itoa mo :: (rowOf L).map bytS) := by rw [KO_eq hko, hck, habs, bytes_row]
  rw [e]
  exact hk
theorem dofR (k : Dig) (mo : Nat) (B M : Nat) (cs : List Cel) (hcs : ∀ c ∈ cs, CelOK c) : ACalls Tryz.prog 22 [.av .ptr (.ptr B DbT []), .av (tyOf Tryz.prog 30) (encD k)] (Heap.er (DbH B M mo cs)) fun r H' => r = .av (.slice 34) (encTraces (getD (absD cs) k)) ∧ H' = DbH B M mo cs := by
  rw [dbH_er hcs]
  exact dbof_ok k mo B M cs hcs
end Go.Proofs.YthdgnfnalimcnaaGreatDoor
end
section
set_option maxRecDepth 100000
/-! The law DbPlays: the program. -/
namespace Go.Proofs.YthdgnfnalimcnaaGreatDoor
open Go Go.Ab
open Classical
variable [Sel] [SelPow]

@[simp] theorem fnok14 : fnOK Tryz.prog 14 = true := by kernel_rfl
@[simp] theorem isne14 : isNE Tryz.prog (.func 14) = false := isNE_func fnok14
@[simp] theorem fnok4 : fnOK Tryz.prog 4 = true := by kernel_rfl
@[simp] theorem isne4 : isNE Tryz.prog (.func 4) = false := isNE_func fnok4
structure DAct where
  kind : Int
  t : Trace
def encDAct (a : DAct) : AV := .agg [.i .u8 a.kind, encTrace a.t]
def acs (l : List DAct) : List AV := l.map encDAct
def encDActs (l : List DAct) : AV := .sl .no (acs l)
theorem acs_get (l : List DAct) (k : Nat) (h : k < l.length) : (acs l)[k]? = some (encDAct l[k]) := by simp [acs, List.getElem?_eq_getElem h]
theorem acs_len (l : List DAct) : (acs l).length = l.length := by simp [acs]
theorem ers_acs (l : List DAct) : AV.ers (acs l) = acs l := by
  rw [AV.ers_eq, acs, List.map_map]
  refine List.map_congr_left fun a _ => ?_
  simp [encDAct, AV.er, AV.ers]
noncomputable def greatV (l : List DAct) : Bool := decide (40 < l.length) || l.any fun a => wideTV a.t
structure InvD (n mo : Nat) (L : DbL) : Prop where
  ok : OKD L
  mem : InD (fun t => TrW t ∧ TrD t) (fun k => k.length = 32) L
  len : L.length ≤ n
  row : ∀ k, (getD L k).length ≤ mo
theorem InvD.bd {n mo : Nat} {L : DbL} (h : InvD n mo L) (hn : n ≤ 85) (hm : mo ≤ 8) : BdD L := ⟨h.ok, h.mem, Nat.le_trans h.len hn, fun k => Nat.le_trans (h.row k) hm⟩
theorem InvD.nil {mo : Nat} : InvD 0 mo [] := ⟨OKD_nil, fun p hp => by simp at hp, by simp, fun k => by simp [getD]⟩
theorem InvD.del {n mo : Nat} {L : DbL} (h : InvD n mo L) (k : Dig) : InvD (n+1) mo (delD k L) := by
  refine ⟨OKD_del h.ok, fun p hp => h.mem p (List.mem_filter.1 hp).1, ?_, fun q => ?_⟩
  · have := List.length_filter_le (fun p : Dig × List Trace => decide (p.1 ≠ k)) L
    have := h.len
    unfold delD; omega
  · rw [getD_del]
    split
    · simp
    · exact h.row q
theorem InvD.add {n mo : Nat} {L : DbL} (h : InvD n mo L) (hm : 1 ≤ mo) {t : Trace} (ht : TrW t) (hd : TrD t) : InvD (n+1) mo (addD mo L t) := by
  refine ⟨OKD_add hm h.ok t, addD_in h.mem ⟨ht, hd⟩ hd.1, ?_, fun q => ?_⟩
  · have := h.len
    unfold addD
    split
    · have := putD_len (k := t.key) (v := addL mo t (getD L t.key)) (L := L); omega
    · omega
  · rw [getD_add]
    unfold stepK
    split
    · exact addL_len _ _ _
    · exact h.row q
theorem rowOf_add {mo : Nat} {L : DbL} (h : OKD L) {t : Trace} (hc : checkV t = 0) : raddV mo (rowOf L) t = rowOf (addD mo L t) := by rw [radd_row h, addD, if_pos hc]
theorem callV_drop {s : St} {x : AV} {dst : Option Nat} {K : St → Prop} (k : Dig) (mo : Nat) (B M : Nat) (cs : List Cel) (hcs : ∀ c ∈ cs, CelOK c) (hnk : (cs.map (·.key)).Nodup) (rest : Heap)
    (hH : s.H.Perm (DbH B M mo cs ++ rest)) (hx : x.er = encD k)
    (hk : ∀ cs', (∀ c ∈ cs', CelOK c) → absD cs' = delD k (absD cs) → K (({ s with H := DbH B M mo cs' ++ rest } : St).put dst (.av (.int .i64) (.i .i64 ((getD (absD cs) k).length : Nat))))) :
    callV Tryz.prog s (.av .func (.fn 15 [])) [.av .ptr (.ptr B DbT []), .av (.arr 32 5) x] dst K := by
  have h := dbdrop_ok k mo B M cs hcs hnk
  have e : tyOf Tryz.prog 30 = .arr 32 5 := ty30
  rw [e] at h
  refine callV_sub (DbH B M mo cs) rest hH rfl rfl (by simp) (R := fun r H' => r = .av (.int .i64) (.i .i64 ((getD (absD cs) k).length : Nat)) ∧ ∃ cs', (∀ c ∈ cs', CelOK c) ∧ absD cs' = delD k (absD cs) ∧ H' = DbH B M mo cs') ?_ ?_
  · rw [dbH_er hcs]
    simp only [List.map_nil, List.append_nil, List.map_cons, TV.er, AV.er, hx, List.reverse_nil]
    exact h
  rintro r H' ⟨rfl, cs', h1, h2, rfl⟩ _
  exact ⟨_, HSub.refl _, hk cs' h1 h2⟩
end Go.Proofs.YthdgnfnalimcnaaGreatDoor
end
section
set_option maxRecDepth 100000
/-! What a reading of acts tells. -/
namespace Go.Proofs.YthdgnfnalimcnaaGreatDoor
open Go Go.Ab
open Classical
variable [Sel] [SelPow]

theorem decAct {n : Nat} {x : AV} (h : WTy Tryz.prog (n + 6) 42 x) : ∃ a : DAct, x = encDAct a ∧ okTrace a.t ∧ 0 ≤ a.kind ∧ a.kind < 256 := by
  rw [WTy] at h
  simp only [ty42] at h
  obtain ⟨xs, rfl, hlen, h⟩ := h
  match xs, hlen with
  | [a, b], _ =>
    have h0 := h 0 5 a rfl rfl
    obtain ⟨t, rfl, h2⟩ := decTrace (h 1 34 b rfl rfl)
    simp only [WTy, ty5] at h0
    obtain ⟨m, rfl, hm⟩ := h0
    refine ⟨⟨m, t⟩, rfl, h2, ?_⟩
    have hx : 0 ≤ m ∧ m ≤ 255 := by simpa [Lit.wf, IntKind.min, IntKind.max, IntKind.signed, IntKind.bits] using hm
    exact ⟨hx.1, by show m < 256; omega⟩
theorem decActs {n : Nat} {x : AV} (h : WTy Tryz.prog (n + 7) 39 x) : ∃ l : List DAct, x = encDActs l ∧ l.length ≤ maxLen ∧ ∀ a ∈ l, okTrace a.t ∧ 0 ≤ a.kind ∧ a.kind < 256 := by
  rw [WTy] at h
  simp only [ty39] at h
  obtain ⟨xs, rfl, hlen, h⟩ := h
  obtain ⟨l, rfl, h2⟩ := list_dec h fun y hy => decAct hy
  exact ⟨l, rfl, by simpa using hlen, h2⟩
theorem okTrace_D {t : Trace} (h : okTrace t) : TrD t := by
  obtain ⟨h1, ⟨h2, h3⟩, h4, h5⟩ := h
  exact ⟨h1, fun r hr => (h3 r hr).1, fun r hr => (h5 r hr).1⟩
end Go.Proofs.YthdgnfnalimcnaaGreatDoor
end
