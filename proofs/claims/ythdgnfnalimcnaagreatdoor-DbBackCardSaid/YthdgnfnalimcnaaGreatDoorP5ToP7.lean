/- The parts of a text, one by one: the iterator's contract. No condition beyond each theorem's own. -/
import Derived.Test.YthdgnfnalimcnaaGreatDoorP3ToP4
set_option linter.unusedSimpArgs false
set_option linter.unusedVariables false
set_option linter.unusedSectionVars false
section
set_option maxRecDepth 100000
/-! The parts of a text, one by one: the iterator's contract. -/
namespace Go.Proofs.YthdgnfnalimcnaaGreatDoor
open Go Go.Ab
open Classical
variable [Sel]

@[simp] theorem fnok143 : fnOK Tryz.prog 143 = true := by kernel_rfl
@[simp] theorem isne143 : isNE Tryz.prog (.func 143) = false := isNE_func fnok143
@[simp] theorem fnok125 : fnOK Tryz.prog 125 = true := by kernel_rfl
@[simp] theorem isne125 : isNE Tryz.prog (.func 125) = false := isNE_func fnok125
@[simp] theorem fnok101 : fnOK Tryz.prog 101 = true := by kernel_rfl
@[simp] theorem isne101 : isNE Tryz.prog (.func 101) = false := isNE_func fnok101
def seqH (b1 b2 b3 : Nat) (l : List UInt8) (H : Heap) : Heap := (b1, .var .str (.s [47])) :: (b2, .var .str (.s l)) :: (b3, .var (.int .i64) (.i .i64 0)) :: H
set_option maxHeartbeats 8000000 in
theorem splitSeq1_ok {G : Nat → Heap → Prop} {X : Heap → Prop} (y b1 b2 b3 : Nat) (l : List UInt8) (hl : l.length ≤ 9223372036854775807) (hGe : ∀ k H, G k H → H.er = H) (hXe : ∀ H, X H → H.er = H)
    (hY : ∀ k x H, (splitB 47 l)[k]? = some x → G k H → YC Tryz.prog y [.av .str (.s x)] H fun r H' => (r = .av .bool (.b true) ∧ G (k+1) H') ∨ (r = .av .bool (.b false) ∧ X H')) (H0 : Heap) (h0 : G 0 H0) :
    ACalls Tryz.prog 143 [.av .func (.yl y), .av .ptr (.ptr b1 .str []), .av .ptr (.ptr b2 .str []), .av .ptr (.ptr b3 (.int .i64) [])] (seqH b1 b2 b3 l H0)
      fun r H' => r = .tup [] ∧ ∃ l' H1, H' = seqH b1 b2 b3 l' H1 ∧ (G (splitB 47 l).length H1 ∨ X H1) := by
  refine ACalls.nodup fun hnd => ?_
  simp [seqH, Heap.keys] at hnd
  obtain ⟨⟨n12, n13, _⟩, ⟨n23, _⟩, _⟩ := hnd
  have n21 : ¬ b2 = b1 := fun e => n12 e.symm
  have n31 : ¬ b3 = b1 := fun e => n13 e.symm
  have n32 : ¬ b3 = b2 := fun e => n23 e.symm
  refine ACalls.of_vc laid mixed Tryz.func143 rfl (by kernel_rfl) cf0 (by simp [Tryz.ntmps143]) fun imm0 w0 => ?_
  (simp (maxSteps := 2000000) (disch := first | omega | assumption) [zz, seqH, n12, n13, n23, n21, n31, n32])
  refine AT.loopV (α := Nat × List UInt8 × Heap) (fun x ver => St.of [(0, .av .func (.yl y)), (1, .av .ptr (.ptr b1 .str [])), (2, .av .ptr (.ptr b2 .str [])), (3, .av .ptr (.ptr b3 (.int .i64) []))] [] ver (seqH b1 b2 b3 x.2.1 x.2.2))
    (fun x => G x.1 x.2.2 ∧ (splitB 47 l).drop x.1 = splitB 47 x.2.1 ∧ x.2.1.length ≤ 9223372036854775807) (fun x => x.2.1.length) (0, l, H0) ?_ ?_ ?_
  · refine Le.of ?_ ?_ ?_ ?_ ?_ <;> simp [leTV, locsIn, encDigs, encTraces, encWant, encTrace, encReads, encRead, encMades, encMade, seqH] <;> try omega
  · exact ⟨h0, rfl, hl⟩
  rintro ⟨k, l', H⟩ ver ⟨hG, hdr, hl'⟩ KL hN hE
  simp only at hG hdr hl' hN
  refine vc_sound (cf := cf0) laid mixed _ _ _ (by kernel_rfl) ?_
  (simp (maxSteps := 2000000) (disch := first | omega | assumption) [zz, seqH, n12, n13, n23, n21, n31, n32])
  refine callV_pc (sIndex_ok l' 47 hl') rfl rfl (by simp) (by simp [argLe, TV.er, AV.er]) ?_
  by_cases hi : Lib.indexByte l' 47 < 0
  · have hm : Lib.indexByte l' 47 = -1 := by have := Lib.indexByte_ge l' 47; omega
    have hsp := splitB_no hm
    have hx : (splitB 47 l)[k]? = some l' := by
      have := congrArg (·[0]?) hdr
      rw [hsp] at this
      simpa using this
    have hk : (splitB 47 l).length = k + 1 := by
      have := congrArg List.length hdr
      rw [hsp, List.length_drop] at this
      simp at this; omega
    (simp (maxSteps := 2000000) (disch := first | omega | assumption) [zz, hm, n12, n13, n23, n21, n31, n32, seqH])
    refine hE _ _ (by simp) ?_
    (simp (maxSteps := 2000000) (disch := first | omega | assumption) [zz, n12, n13, n23, n21, n31, n32, seqH])
    refine callV_yield (R := fun r H' => (r = .av .bool (.b true) ∧ G (k+1) H') ∨ (r = .av .bool (.b false) ∧ X H')) H [(b1, .var .str (.s [47])), (b2, .var .str (.s l')), (b3, .var (.int .i64) (.i .i64 0))] (List.perm_append_comm (l₁ := [_, _, _])) (by simp [argOK]) ?_ ?_
    · rw [hGe k H hG]
      simpa [TV.er, AV.er] using hY k l' H hx hG
    · intro r H' hR hnd'
      refine ⟨[(b1, .var .str (.s [47])), (b2, .var .str (.s l')), (b3, .var (.int .i64) (.i .i64 0))] ++ H', HSub.of_perm List.perm_append_comm, ?_⟩
      have hHe : H'.er = H' := hR.elim (fun h => hGe _ _ h.2) (fun h => hXe _ h.2)
      rcases hR with ⟨rfl, hR⟩ | ⟨rfl, hR⟩
      · (simp (maxSteps := 2000000) (disch := first | omega | assumption) [zz, Tryz.f143, hHe, hk])
        exact ⟨_, _, ⟨rfl, rfl⟩, .inl hR⟩
      · (simp (maxSteps := 2000000) (disch := first | omega | assumption) [zz, Tryz.f143, hHe, hk])
        exact ⟨_, _, ⟨rfl, rfl⟩, .inr hR⟩
  · obtain ⟨i, hi'⟩ : ∃ i : Nat, Lib.indexByte l' 47 = i := ⟨(Lib.indexByte l' 47).toNat, by omega⟩
    obtain ⟨hsp, hlt⟩ := splitB_at hi'
    have hx : (splitB 47 l)[k]? = some (l'.take i) := by
      have := congrArg (·[0]?) hdr
      rw [hsp] at this
      simpa using this
    have hdr2 : (splitB 47 l).drop (k+1) = splitB 47 (l'.drop (i+1)) := by
      rw [← List.drop_drop, hdr, hsp]; rfl
    have hge : ¬ (i : Int) < 0 := by omega
    (simp (maxSteps := 2000000) (disch := first | omega | assumption) [zz, hi', hge, n12, n13, n23, n21, n31, n32, seqH])
    (repeat ((with_reducible refine And.intro ?_ ?_); (· first | omega | (show barB _ _ = true; kernel_rfl) | (show rdJ _ _ _ _ _ = true; kernel_rfl) | (show tailB _ _ _ = true; kernel_rfl) | (show sftB _ _ _ = true; kernel_rfl))))
    refine callV_yield (R := fun r H' => (r = .av .bool (.b true) ∧ G (k+1) H') ∨ (r = .av .bool (.b false) ∧ X H')) H [(b1, .var .str (.s [47])), (b2, .var .str (.s l')), (b3, .var (.int .i64) (.i .i64 0))] (List.perm_append_comm (l₁ := [_, _, _])) (by simp [argOK]) ?_ ?_
    · rw [hGe k H hG]
      simpa [TV.er, AV.er] using hY k (l'.take i) H hx hG
    · intro r H' hR hnd'
      refine ⟨[(b1, .var .str (.s [47])), (b2, .var .str (.s l')), (b3, .var (.int .i64) (.i .i64 0))] ++ H', HSub.of_perm List.perm_append_comm, ?_⟩
      have hHe : H'.er = H' := hR.elim (fun h => hGe _ _ h.2) (fun h => hXe _ h.2)
      rcases hR with ⟨rfl, hR⟩ | ⟨rfl, hR⟩
      · (simp (maxSteps := 2000000) (disch := first | omega | assumption) [zz, hHe, n12, n13, n23, n21, n31, n32])
        (repeat ((with_reducible refine And.intro ?_ ?_); (· first | omega | (show barB _ _ = true; kernel_rfl) | (show rdJ _ _ _ _ _ = true; kernel_rfl) | (show tailB _ _ _ = true; kernel_rfl) | (show sftB _ _ _ = true; kernel_rfl))))
        refine hN _ (k+1, l'.drop (i+1), H') ?_ ⟨hR, hdr2, by simp; omega⟩ (by simp; omega)
        refine Le.of ?_ ?_ ?_ ?_ ?_ <;> simp [leTV, locsIn, encDigs, encTraces, encWant, encTrace, encReads, encRead, encMades, encMade, seqH] <;> try omega
      · (simp (maxSteps := 2000000) (disch := first | omega | assumption) [zz, hHe])
        refine hE _ _ (by simp) ?_
        (simp (maxSteps := 2000000) (disch := first | omega | assumption) [zz, Tryz.f143, hHe])
        exact ⟨_, _, ⟨rfl, rfl⟩, .inr hR⟩
end Go.Proofs.YthdgnfnalimcnaaGreatDoor
end
section
set_option maxRecDepth 100000
/-! strings.SplitSeq at a stroke: the iterator that it gives. -/
namespace Go.Proofs.YthdgnfnalimcnaaGreatDoor
open Go Go.Ab
open Classical
variable [Sel]

abbrev cfSeq : Cfg := ⟨fun n => n == 3 || n == 4 || n == 5, fun _ => false⟩
def seqR (l : List UInt8) (r : TV) (H' : Heap) : Prop := ∃ b1 b2 b3, r = .av .func (.fn 143 [.ptr b1 .str [], .ptr b2 .str [], .ptr b3 (.int .i64) []]) ∧ H' = [(b3, .var (.int .i64) (.i .i64 0)), (b1, .var .str (.s [47])), (b2, .var .str (.s l))]
theorem splitSeq_ok (l : List UInt8) : ACalls Tryz.prog 125 [.av .str (.s l), .av .str (.s [47]), .av (.int .i64) (.i .i64 0)] [] (seqR l) := by
  refine ACalls.of_vc laid mixed Tryz.func125 rfl (by kernel_rfl) cfSeq (by simp [Tryz.ntmps125]) fun imm0 w0 => ?_
  (simp (maxSteps := 2000000) (disch := first | omega | assumption) [zz])
  intro b2 b1 hb1 b3 hb3 hb3'
  (simp (maxSteps := 2000000) (disch := first | omega | assumption) [zz, Tryz.f125, seqR])
  exact ⟨_, _, _, ⟨rfl, rfl, rfl⟩, rfl, rfl, rfl⟩
theorem SplitSeq_ok (l : List UInt8) : ACalls Tryz.prog 101 [.av .str (.s l), .av .str (.s [47])] [] (seqR l) := by
  refine ACalls.of_vc laid mixed Tryz.func101 rfl (by kernel_rfl) cf0 (by simp [Tryz.ntmps101]) fun imm0 w0 => ?_
  (simp (maxSteps := 2000000) (disch := first | omega | assumption) [zz])
  refine callV_all (R := seqR l) rfl (by simp [argOK]) (by simp) ?_ ?_
  · exact ACalls.args (splitSeq_ok l) (by simp [argLe, TV.er, AV.er, coC])
  · rintro r H' ⟨b1, b2, b3, rfl, rfl⟩
    (simp (maxSteps := 2000000) (disch := first | omega | assumption) [zz, Tryz.f101, seqR, AV.ers])
    exact ⟨_, _, _, ⟨rfl, rfl, rfl⟩, rfl, rfl, rfl⟩
end Go.Proofs.YthdgnfnalimcnaaGreatDoor
end
section
set_option maxRecDepth 100000
/-! A range over the parts of a text. -/
namespace Go.Proofs.YthdgnfnalimcnaaGreatDoor
open Go Go.Ab
open Classical
variable [Sel]

theorem ready_eta {r : Loop} (h1 : r.state = .ready) (h2 : r.pending = none) : ({ r with state := .ready, pending := none } : Loop) = r := by cases r; simp_all
def REnd (y : Nat) (r : Loop) (i0 : Nat → Nat) (w0 : World) (G1 : Heap → Prop) (X : Loop → Heap → Prop) (rr : TV) (H' : Heap) : Prop :=
  (rr = .av .bool (.b true) ∧ ∃ H1, H' = (y, .lrec r i0 w0) :: H1 ∧ G1 H1) ∨ (rr = .av .bool (.b false) ∧ ∃ r' H1, H' = (y, .lrec r' i0 w0) :: H1 ∧ X r' H1)
theorem range_splitSeq {c : Ctx} {f : Operand} {ps : Array Nat} {assign body : Code} {K : Exit → St → Prop} {s : St} (hP : c.P = Tryz.prog) (hrd : c.rd = none) {c1 c2 c3 : Nat} {l : List UInt8} (hl : l.length ≤ 9223372036854775807) {Hr : Heap}
    (hev : ev s f = .av .func (.fn 143 [.ptr c1 .str [], .ptr c2 .str [], .ptr c3 (.int .i64) []])) (hH : s.H.Perm (seqH c1 c2 c3 l Hr)) (hHe : Hr.er = Hr) (hps : ps.size = 1) (hpn : ∀ p ∈ ps.toList, p < c.n)
    (h : ∀ (y D : Nat) (r : Loop) (i0 : Nat → Nat) (w0 : World), y ∉ s.H.keys → r.state = .ready → r.pending = none →
      ∃ (G : Nat → Heap → Prop) (X : Loop → Heap → Prop), (∀ k H, G k H → H.er = H) ∧ (∀ r' H, X r' H → H.er = H) ∧ G 0 Hr ∧
        (∀ k x H, (splitB 47 l)[k]? = some x → G k H → ∀ imm w, AT ⟨c.P, c.n, imm, (y, .lrec r i0 w0) :: H, w, some y⟩ assign
          (KSeq (fun s' => hget s'.H y = some (.lrec r i0 w0) ∧ AT ⟨c.P, c.n, imm, (y, .lrec r i0 w0) :: H, w, some y⟩ body (KBody y i0 w0 (REnd y r i0 w0 (G (k+1)) X)) { s' with H := hset s'.H y (.lrec { r with state := .busy } i0 w0) }) KNo)
          (roundS s.env ps.toList [.av .str (.s x)] ((y, .lrec r i0 w0) :: H))) ∧
        (∀ H1, G (splitB 47 l).length H1 → K .normal { s with H := H1, dfs := D :: s.dfs }) ∧
        (∀ r' H1, X r' H1 → r'.state ≠ .busy ∧ KJump K r'.pending { s with H := H1, dfs := D :: s.dfs })) :
    AT c (.rangeFunc f ps assign body) K s := by
  refine AT.range (gf := 143) hrd hev rfl (by rw [hP]; simp) ?_
  intro y D r i0 w0 hy hrec hready hpend hpar has hbo
  obtain ⟨G, X, hG, hX, h0, hY, hN, hE⟩ := h y D r i0 w0 hy hready hpend
  clear h
  subst has hbo hpar
  refine ⟨seqH c1 c2 c3 l ((y, .lrec r i0 w0) :: Hr), [], fun t H' => t = .tup [] ∧ ∃ l' H1, H' = seqH c1 c2 c3 l' H1 ∧ ((∃ H2, H1 = (y, .lrec r i0 w0) :: H2 ∧ G (splitB 47 l).length H2) ∨ ∃ r' H2, H1 = (y, .lrec r' i0 w0) :: H2 ∧ X r' H2), ?_, ?_, ?_⟩
  · rw [List.append_nil]
    refine (List.Perm.cons _ hH).trans ?_
    unfold seqH
    exact (List.perm_middle (l₁ := [_, _, _])).symm
  · have he : (seqH c1 c2 c3 l ((y, .lrec r i0 w0) :: Hr)).er = seqH c1 c2 c3 l ((y, .lrec r i0 w0) :: Hr) := by
      simp only [seqH, Heap.er_cons, hHe]; rfl
    rw [he, hP]
    have := splitSeq1_ok (G := fun k H => ∃ H2, H = (y, .lrec r i0 w0) :: H2 ∧ G k H2) (X := fun H => ∃ r' H2, H = (y, .lrec r' i0 w0) :: H2 ∧ X r' H2) y c1 c2 c3 l hl ?_ ?_ ?_ ((y, .lrec r i0 w0) :: Hr) ⟨Hr, rfl, h0⟩
    · exact this
    · rintro k H ⟨H2, rfl, hg⟩
      rw [Heap.er_cons, hG k H2 hg]; rfl
    · rintro H ⟨r', H2, rfl, hg⟩
      rw [Heap.er_cons, hX r' H2 hg]; rfl
    · rintro k x H hx ⟨H2, rfl, hg⟩
      have hrd := YC.of_round (P := c.P) (n := c.n) (E := s.env) (r := r) (i0 := i0) (w0 := w0) (l := y) hrec hready (args := [.av .str (.s x)]) (H := H2) (R := REnd y r i0 w0 (G (k+1)) X) (by rw [hps]; rfl) hpn (fun imm w => hY k x H2 hx hg imm w)
      rw [hP] at hrd
      intro imm w vs h1 h2
      obtain ⟨f', tmps, as', bo', h3, h4⟩ := hrd imm w vs h1 h2
      refine ⟨f', tmps, as', bo', h3, RoundIn.mono h4 ?_⟩
      rintro e w' ⟨v, rr, imm', H', e1, e2, e3⟩
      refine ⟨v, rr, imm', H', e1, ?_, e3⟩
      rcases e2 with ⟨rfl, H1, rfl, g1⟩ | ⟨rfl, r', H1, rfl, g1⟩
      · exact .inl ⟨rfl, H1, rfl, g1⟩
      · exact .inr ⟨rfl, r', H1, rfl, g1⟩
  · rintro t H' ⟨rfl, l', H1, rfl, hh⟩ hnd
    rcases hh with ⟨H2, rfl, hg⟩ | ⟨r', H2, rfl, hg⟩
    · refine ⟨r, H2, ?_, by rw [hready]; simp, ?_⟩
      · rw [List.append_nil]
        refine HSub.of_sub ?_
        unfold seqH
        exact ((List.Sublist.refl _).cons _).cons _ |>.cons _
      · rw [hpend]; exact hN H2 hg
    · obtain ⟨hb, hk⟩ := hE r' H2 hg
      refine ⟨r', H2, ?_, hb, hk⟩
      rw [List.append_nil]
      refine HSub.of_sub ?_
      unfold seqH
      exact ((List.Sublist.refl _).cons _).cons _ |>.cons _
end Go.Proofs.YthdgnfnalimcnaaGreatDoor
end
