/- A range over the parts of a text. No condition beyond each theorem's own. -/
import Derived.Test.YthdgnfnalimcnaaGreatDoorP6
set_option linter.unusedSimpArgs false
set_option linter.unusedVariables false
set_option linter.unusedSectionVars false
set_option maxRecDepth 100000
/-! A range over the parts of a text. -/
namespace Go.Proofs.YthdgnfnalimcnaaGreatDoor
open Go Go.Ab
open Classical
variable [Sel]
attribute [local simp] vc_skip hiLen zN capV cpyD appendZ clearV delV mdel copyVT extV ovV vc_label vc_region vc_drawn vc_seq vc_cond vc_block vc_exit vc_goto vc_ret vc_loop vc_scope vcOps_nil vcOps_cons vcPs_nil vcPs_cons vcDs_nil vcDs_cons vcD impB mkd wkOf isCallV rdOK_eq rdO_nil rdO_tmp rdO_const rdO_global rdO_func rdL_nil rdL_cons rdT_av rdT_cst rdT_pel rdT_tup rdT_junk rdT_loc St.app Op.operands Call.operands vcG_eq iteP wkOf isCallV vcOp putK_eq pureV ev co coC asI asB asS isNil nkOf derefV fieldAddrV indexAddrV indexV lowV boundsV sliceV pickV_eq unV convV convB bytesOf capOf lenV minV maxV withSrc slice3V lookupV mapOf mfind mput scalT mapUpdV makeSliceV appendM appendN growM growOK zM binI isConst binV St.put upd KSeq_n KSeq_x KSeq_g KSeq_r KBlock_n KBlock_x KBlock_g KBlock_r KScope_n KScope_x KScope_r KRet_n KRet_r resL retTV TV.er AV.er AV.ers AV.erk AV.erks Tok.k Heap.er_nil Heap.er_cons Heap.er_app HObj.er_var HObj.er_map Heap.keys_nil Heap.keys_cons Heap.keys_app hget hset subT getP setP_nil setP_one setP_two setPo_some storeV buildV buildL partsOf capTV argOK entry St.of lk_nil lk_cons leLoc siterOf_siter gB_undef gB_av gB_cst undef isNE_tmp isSlT nslD nslDs mslOf mstrV copyV copyK unsV ustrV hdel dataV sameP mtbD isSlN slNilV vcDo_nil vcDo_cons isLt sft sftD softV rangeMV entryMV cmpV

theorem ready_eta {r : Loop} (h1 : r.state = .ready) (h2 : r.pending = none) : ({ r with state := .ready, pending := none } : Loop) = r := by cases r; simp_all
/-- a round's end: how it ends, and the heap behind the record -/
def REnd (y : Nat) (r : Loop) (i0 : Nat → Nat) (w0 : World) (G1 : Heap → Prop) (X : Loop → Heap → Prop) (rr : TV) (H' : Heap) : Prop :=
  (rr = .av .bool (.b true) ∧ ∃ H1, H' = (y, .lrec r i0 w0) :: H1 ∧ G1 H1) ∨ (rr = .av .bool (.b false) ∧ ∃ r' H1, H' = (y, .lrec r' i0 w0) :: H1 ∧ X r' H1)
theorem range_splitSeq {c : Ctx} {f : Operand} {ps : Array Nat} {assign body : Code} {K : Exit → St → Prop} {s : St} (hP : c.P = Tryz.prog) (hrd : c.rd = none) {c1 c2 c3 : Nat} {l : List UInt8} (hl : l.length ≤ 9223372036854775807) {Hr : Heap}
    (hev : ev s f = .av .func (.fn 143 [.ptr c1 .str [], .ptr c2 .str [], .ptr c3 (.int .i64) []])) (hH : s.H.Perm (seqH c1 c2 c3 l Hr)) (hHe : Hr.er = Hr) (hps : ps.size = 1) (hpn : ∀ p ∈ ps.toList, p < c.n)
    (h : ∀ (y D : Nat) (r : Loop) (i0 : Nat → Nat) (w0 : World), y ∉ s.H.keys → r.state = .ready → r.pending = none →
      ∃ (G : Nat → Heap → Prop) (X : Loop → Heap → Prop), (∀ k H, G k H → H.er = H) ∧ (∀ r' H, X r' H → H.er = H) ∧ G 0 Hr ∧
        (∀ k x H, (splitB 47 l)[k]? = some x → G k H → ∀ imm w, AT ⟨c.P, c.n, imm, (y, .lrec r i0 w0) :: H, w, some y⟩ assign
          (KSeq (fun s' => hget s'.H y = some (.lrec r i0 w0) ∧ AT ⟨c.P, c.n, imm, (y, .lrec r i0 w0) :: H, w, some y⟩ body (KBody y i0 w0 (REnd y r i0 w0 (G (k+1)) X)) { s' with H := hset s'.H y (.lrec { r with state := .busy } i0 w0) }) KNo)
          (roundS s.env ps.toList [.av .str (.s x)] ((y, .lrec r i0 w0) :: H))) ∧
        (∀ H1, G (splitB 47 l).length H1 → K .normal { s with H := H1, dfs := D :: s.dfs }) ∧
        (∀ r' H1, X r' H1 → r'.state ≠ .busy ∧ KJump K r'.pending { s with H := H1, dfs := D :: s.dfs })) :
    AT c (.rangeFunc f ps assign body) K s := by
  refine AT.range (gf := 143) hrd hev rfl (by rw [hP]; simp) ?_
  intro y D r i0 w0 hy hrec hready hpend hpar has hbo
  obtain ⟨G, X, hG, hX, h0, hY, hN, hE⟩ := h y D r i0 w0 hy hready hpend
  clear h
  subst has hbo hpar
  refine ⟨seqH c1 c2 c3 l ((y, .lrec r i0 w0) :: Hr), [], fun t H' => t = .tup [] ∧ ∃ l' H1, H' = seqH c1 c2 c3 l' H1 ∧ ((∃ H2, H1 = (y, .lrec r i0 w0) :: H2 ∧ G (splitB 47 l).length H2) ∨ ∃ r' H2, H1 = (y, .lrec r' i0 w0) :: H2 ∧ X r' H2), ?_, ?_, ?_⟩
  · rw [List.append_nil]
    refine (List.Perm.cons _ hH).trans ?_
    unfold seqH
    exact (List.perm_middle (l₁ := [_, _, _])).symm
  · have he : (seqH c1 c2 c3 l ((y, .lrec r i0 w0) :: Hr)).er = seqH c1 c2 c3 l ((y, .lrec r i0 w0) :: Hr) := by
      simp only [seqH, Heap.er_cons, hHe]; rfl
    rw [he, hP]
    have := splitSeq1_ok (G := fun k H => ∃ H2, H = (y, .lrec r i0 w0) :: H2 ∧ G k H2) (X := fun H => ∃ r' H2, H = (y, .lrec r' i0 w0) :: H2 ∧ X r' H2) y c1 c2 c3 l hl ?_ ?_ ?_ ((y, .lrec r i0 w0) :: Hr) ⟨Hr, rfl, h0⟩
    · exact this
    · rintro k H ⟨H2, rfl, hg⟩
      rw [Heap.er_cons, hG k H2 hg]; rfl
    · rintro H ⟨r', H2, rfl, hg⟩
      rw [Heap.er_cons, hX r' H2 hg]; rfl
    · rintro k x H hx ⟨H2, rfl, hg⟩
      have hrd := YC.of_round (P := c.P) (n := c.n) (E := s.env) (r := r) (i0 := i0) (w0 := w0) (l := y) hrec hready (args := [.av .str (.s x)]) (H := H2) (R := REnd y r i0 w0 (G (k+1)) X) (by rw [hps]; rfl) hpn (fun imm w => hY k x H2 hx hg imm w)
      rw [hP] at hrd
      intro imm w vs h1 h2
      obtain ⟨f', tmps, as', bo', h3, h4⟩ := hrd imm w vs h1 h2
      refine ⟨f', tmps, as', bo', h3, RoundIn.mono h4 ?_⟩
      rintro e w' ⟨v, rr, imm', H', e1, e2, e3⟩
      refine ⟨v, rr, imm', H', e1, ?_, e3⟩
      rcases e2 with ⟨rfl, H1, rfl, g1⟩ | ⟨rfl, r', H1, rfl, g1⟩
      · exact .inl ⟨rfl, H1, rfl, g1⟩
      · exact .inr ⟨rfl, r', H1, rfl, g1⟩
  · rintro t H' ⟨rfl, l', H1, rfl, hh⟩ hnd
    rcases hh with ⟨H2, rfl, hg⟩ | ⟨r', H2, rfl, hg⟩
    · refine ⟨r, H2, ?_, by rw [hready]; simp, ?_⟩
      · rw [List.append_nil]
        refine HSub.of_sub ?_
        unfold seqH
        exact ((List.Sublist.refl _).cons _).cons _ |>.cons _
      · rw [hpend]; exact hN H2 hg
    · obtain ⟨hb, hk⟩ := hE r' H2 hg
      refine ⟨r', H2, ?_, hb, hk⟩
      rw [List.append_nil]
      refine HSub.of_sub ?_
      unfold seqH
      exact ((List.Sublist.refl _).cons _).cons _ |>.cons _
end Go.Proofs.YthdgnfnalimcnaaGreatDoor
