/- strings.Builder. No condition beyond each theorem's own. -/
import Derived.Test.YthdgnfnalimcnaaGreatDoorL0
import Derived.Test.YthdgnfnalimcnaaGreatDoorQ0
set_option linter.unusedSimpArgs false
set_option linter.unusedVariables false
set_option linter.unusedSectionVars false
section
set_option maxRecDepth 100000
/-! strings.Builder. -/
namespace Go.Proofs.YthdgnfnalimcnaaGreatDoor
open Go Go.Ab
open Classical
variable [Sel]

@[simp] theorem fnok92 : fnOK Tryz.prog 92 = true := by kernel_rfl
@[simp] theorem isne92 : isNE Tryz.prog (.func 92) = false := isNE_func fnok92
@[simp] theorem fnok65 : fnOK Tryz.prog 65 = true := by kernel_rfl
@[simp] theorem isne65 : isNE Tryz.prog (.func 65) = false := isNE_func fnok65
@[simp] theorem fnok67 : fnOK Tryz.prog 67 = true := by kernel_rfl
@[simp] theorem isne67 : isNE Tryz.prog (.func 67) = false := isNE_func fnok67
@[simp] theorem fnok68 : fnOK Tryz.prog 68 = true := by kernel_rfl
@[simp] theorem isne68 : isNE Tryz.prog (.func 68) = false := isNE_func fnok68
@[simp] theorem tyUns : tyOf Tryz.prog 153 = .other := by kernel_rfl
@[simp] theorem isneNE : isNE Tryz.prog (.func 109) = true := by kernel_rfl
theorem neOKne : neOK Tryz.prog (.func 109) := ⟨_, Tryz.func109, by kernel_rfl, by kernel_rfl, by kernel_rfl, by kernel_rfl⟩
abbrev bldD : TyD := .struct [107, 84]
def bys (l : List UInt8) : List AV := l.map fun b => .i .u8 b.toNat
@[simp] theorem bys_length (l : List UInt8) : (bys l).length = l.length := by simp [bys]
@[simp] theorem erks_bys (l : List UInt8) : AV.erks (bys l) = bys l := by simp [bys, AV.erks_eq, AV.erk, Function.comp_def]
@[simp] theorem ers_bys (l : List UInt8) : AV.ers (bys l) = bys l := by simp [bys, AV.ers_eq, AV.er, Function.comp_def]
theorem bys_app (a b : List UInt8) : bys a ++ bys b = bys (a ++ b) := by simp [bys]
theorem bys_take (l : List UInt8) (n : Nat) : (bys l).take n = bys (l.take n) := by simp [bys, List.map_take]
theorem bys_drop (l : List UInt8) (n : Nat) : (bys l).drop n = bys (l.drop n) := by simp [bys, List.map_drop]
theorem bys_rep (n : Nat) : List.replicate n (AV.i .u8 0) = bys (List.replicate n 0) := by simp [bys]
theorem bytesOf_bys : ∀ l, bytesOf (bys l) = some l
  | [] => rfl
  | b :: l => by
    have := bytesOf_bys l
    simp only [bys, List.map_cons, bytesOf] at this ⊢
    rw [this]
    simp
theorem cc_fresh (b : Nat) (buf : AV) (hb : buf.erk = buf) : ACalls Tryz.prog 92 [.av .ptr (.ptr b bldD [])] [(b, .var bldD (.agg [.nilptr, buf]))] fun r H' => r = .tup [] ∧ H' = [(b, .var bldD (.agg [.ptr b bldD [], buf]))] := by
  refine ACalls.of_vc laid mixed Tryz.func92 rfl (by kernel_rfl) cf0 (by simp [Tryz.ntmps92]) fun imm0 w0 => ?_
  (simp (maxSteps := 2000000) (disch := first | omega | assumption) [zz])
  refine ⟨by kernel_rfl, neOKne, by kernel_rfl, ?_⟩
  (simp (maxSteps := 2000000) (disch := first | omega | assumption) [zz, Tryz.f92, hb])
theorem cc_used (b : Nat) (buf : AV) (hb : buf.erk = buf) : ACalls Tryz.prog 92 [.av .ptr (.ptr b bldD [])] [(b, .var bldD (.agg [.ptr b bldD [], buf]))] fun r H' => r = .tup [] ∧ H' = [(b, .var bldD (.agg [.ptr b bldD [], buf]))] := by
  refine ACalls.of_vc laid mixed Tryz.func92 rfl (by kernel_rfl) cf0 (by simp [Tryz.ntmps92]) fun imm0 w0 => ?_
  (simp (maxSteps := 2000000) (disch := first | omega | assumption) [zz])
  refine ⟨by kernel_rfl, ?_⟩
  (simp (maxSteps := 2000000) (disch := first | omega | assumption) [zz, Tryz.f92, hb])
inductive BS (b : Nat) (bs : List UInt8) : Heap → Prop
  | fresh (p : AV) (hp : p = .nilptr ∨ p = .ptr b bldD []) (h : bs = []) : BS b bs [(b, .var bldD (.agg [p, .nsl]))]
  | row (p : AV) (hp : p = .nilptr ∨ p = .ptr b bldD []) (r cap : Nat) (rs : List UInt8) (hc : bs.length + rs.length = cap) (h0 : 0 < cap) : BS b bs [(b, .var bldD (.agg [p, .msl r 5 0 bs.length cap])), (r, .var (.arr cap 5) (.agg (bys (bs ++ rs))))]
theorem cc_any (b : Nat) (p buf : AV) (hp : p = .nilptr ∨ p = .ptr b bldD []) (hb : buf.erk = buf) : ACalls Tryz.prog 92 [.av .ptr (.ptr b bldD [])] [(b, .var bldD (.agg [p, buf]))] fun r H' => r = .tup [] ∧ H' = [(b, .var bldD (.agg [.ptr b bldD [], buf]))] := by
  rcases hp with rfl | rfl
  · exact cc_fresh b buf hb
  · exact cc_used b buf hb
theorem BS.er {b : Nat} {bs : List UInt8} {H : Heap} (h : BS b bs H) : H.er = H := by
  cases h with
  | fresh p hp h => rcases hp with rfl | rfl <;> simp [Heap.er, HObj.er, AV.erk, AV.erks]
  | row p hp r cap rs hc h0 => rcases hp with rfl | rfl <;> simp [Heap.er, HObj.er, AV.erk, AV.erks]
def BSs (b : Nat) (bs : List UInt8) (H : Heap) : Prop := ∃ H2, HSub H2 H ∧ BS b bs H2
theorem ACalls.bss {P : Program} {f : FuncId} {args : List TV} {H : Heap} {r0 : TV} {b : Nat} {bs : List UInt8} (h : ACalls P f args H fun r H' => r = r0 ∧ BSs b bs H') : ACalls P f args H fun r H' => r = r0 ∧ BS b bs H' :=
  h.sub fun r H' ⟨h1, H2, h2, h3⟩ _ => ⟨H2, h2, h1, h3⟩
set_option maxHeartbeats 4000000 in
theorem ws_ok (b : Nat) (bs x : List UInt8) (H : Heap) (hB : BS b bs H) (hl : bs.length + x.length ≤ 100000000000) :
    ACalls Tryz.prog 65 [.av .ptr (.ptr b bldD []), .av .str (.s x)] H fun r H' => r = .tup [(.int .i64, .i .i64 x.length), (.iface, .nilifc)] ∧ BS b (bs ++ x) H' := by
  refine ACalls.bss <| ACalls.nodup fun hnd => ?_
  have ebx : (x.map fun b => AV.i .u8 b.toNat) = bys x := rfl
  cases hB with
  | fresh p hp h =>
    subst h
    simp at hl
    refine ACalls.of_vc laid mixed Tryz.func65 rfl (by kernel_rfl) cf0 (by simp [Tryz.ntmps65]) fun imm0 w0 => ?_
    (simp (maxSteps := 2000000) (disch := first | omega | assumption) [zz])
    refine callV_all (R := fun r H' => r = .tup [] ∧ H' = [(b, .var bldD (.agg [.ptr b bldD [], .nsl]))]) rfl (by simp [argOK]) (by simp) ?_ ?_
    · have hpe : p.erk = p := by rcases hp with rfl | rfl <;> rfl
      simpa [TV.er, AV.er, Heap.er_cons, Heap.er_nil, HObj.er, AV.erk, AV.erks, hpe] using cc_any b p .nsl hp rfl
    rintro r H' ⟨rfl, rfl⟩
    (simp (maxSteps := 2000000) (disch := first | omega | assumption) [zz])
    refine ⟨by omega, fun hx => ?_, fun hx r cap hr hcap => ?_⟩
    · subst hx
      (simp (maxSteps := 2000000) (disch := first | omega | assumption) [zz, Tryz.f65])
      exact ⟨_, HSub.refl _, .fresh _ (.inr rfl) rfl⟩
    · have hr' : ¬ b = r := fun e => hr e.symm
      (simp (maxSteps := 2000000) (disch := first | omega | assumption) [zz, Tryz.f65, hr, hr', ebx, bys_rep, bys_app])
      refine ⟨_, HSub.of_perm (List.Perm.swap _ _ _), ?_⟩
      have := BS.row (b := b) (bs := x) (.ptr b bldD []) (.inr rfl) r cap (List.replicate (cap - x.length) 0) (by simp; omega) (by omega)
      exact this
  | row p hp r cap rs hc h0 =>
    simp [Heap.keys] at hnd
    have hnd' : ¬ r = b := fun e => hnd e.symm
    have etk : (bys (bs ++ rs)).take bs.length = bys bs := by rw [bys_take, List.take_left]
    have edr : (bys (bs ++ rs)).drop (bs.length + x.length) = bys (rs.drop x.length) := by
      rw [bys_drop, List.drop_append, List.drop_eq_nil_of_le (by omega), List.nil_append, Nat.add_sub_cancel_left]
    refine ACalls.of_vc laid mixed Tryz.func65 rfl (by kernel_rfl) cf0 (by simp [Tryz.ntmps65]) fun imm0 w0 => ?_
    (simp (maxSteps := 2000000) (disch := first | omega | assumption) [zz])
    refine callV_sub (R := fun r' H' => r' = .tup [] ∧ H' = [(b, .var bldD (.agg [.ptr b bldD [], .msl r 5 0 bs.length cap]))]) [(b, .var bldD (.agg [p, .msl r 5 0 bs.length cap]))] [(r, .var (.arr cap 5) (.agg (bys (bs ++ rs))))] (List.Perm.refl _) rfl (by simp [argOK]) (by simp) ?_ ?_
    · have hpe : p.erk = p := by rcases hp with rfl | rfl <;> rfl
      simpa [TV.er, AV.er, Heap.er_cons, Heap.er_nil, HObj.er, AV.erk, AV.erks, hpe] using cc_any b p (.msl r 5 0 bs.length cap) hp rfl
    rintro r' H' ⟨rfl, rfl⟩ _
    refine ⟨_, HSub.refl _, ?_⟩
    (simp (maxSteps := 2000000) (disch := first | omega | assumption) [zz, hnd, hnd', etk, edr, ebx, bys_app])
    refine ⟨by omega, by omega, fun hx => ?_, fun hx r2 cap2 hr2 hr2' hcap2 => ?_⟩
    · (simp (maxSteps := 2000000) (disch := first | omega | assumption) [zz, Tryz.f65, hnd, hnd'])
      refine ⟨_, HSub.refl _, ?_⟩
      have := BS.row (b := b) (bs := bs ++ x) (.ptr b bldD []) (.inr rfl) r cap (rs.drop x.length) (by simp; omega) h0
      simpa using this
    · have hr2b : ¬ b = r2 := fun e => hr2 e.symm
      (simp (maxSteps := 2000000) (disch := first | omega | assumption) [zz, Tryz.f65, hr2, hr2b, hr2', hnd, hnd', bys_rep, bys_app])
      refine ⟨_, ⟨_, List.Perm.swap _ _ _, ((List.Sublist.refl _).cons _).cons_cons _ |>.cons_cons _⟩, ?_⟩
      have := BS.row (b := b) (bs := bs ++ x) (.ptr b bldD []) (.inr rfl) r2 cap2 (List.replicate (cap2 - (bs.length + x.length)) 0) (by simp; omega) (by omega)
      simpa using this
set_option maxHeartbeats 4000000 in
theorem wb_ok (b : Nat) (bs : List UInt8) (x : UInt8) (H : Heap) (hB : BS b bs H) (hl : bs.length ≤ 100000000000) :
    ACalls Tryz.prog 67 [.av .ptr (.ptr b bldD []), .av (.int .u8) (.i .u8 x.toNat)] H fun r H' => r = .av .iface .nilifc ∧ BS b (bs ++ [x]) H' := by
  refine ACalls.bss <| ACalls.nodup fun hnd => ?_
  have ebx : [AV.i .u8 x.toNat] = bys [x] := rfl
  have ebc : ∀ l, AV.i .u8 x.toNat :: bys l = bys (x :: l) := fun l => rfl
  cases hB with
  | fresh p hp h =>
    subst h
    simp at hl
    refine ACalls.of_vc laid mixed Tryz.func67 rfl (by kernel_rfl) cf0 (by simp [Tryz.ntmps67]) fun imm0 w0 => ?_
    (simp (maxSteps := 2000000) (disch := first | omega | assumption) [zz])
    refine callV_all (R := fun r H' => r = .tup [] ∧ H' = [(b, .var bldD (.agg [.ptr b bldD [], .nsl]))]) rfl (by simp [argOK]) (by simp) ?_ ?_
    · have hpe : p.erk = p := by rcases hp with rfl | rfl <;> rfl
      simpa [TV.er, AV.er, Heap.er_cons, Heap.er_nil, HObj.er, AV.erk, AV.erks, hpe] using cc_any b p .nsl hp rfl
    rintro r H' ⟨rfl, rfl⟩
    (simp (maxSteps := 2000000) (disch := first | omega | assumption) [zz])
    intro r cap hr hcap
    · have hr' : ¬ b = r := fun e => hr e.symm
      (simp (maxSteps := 2000000) (disch := first | omega | assumption) [zz, Tryz.f67, hr, hr', ebx, ebc, bys_rep, bys_app])
      refine ⟨_, HSub.of_perm (List.Perm.swap _ _ _), ?_⟩
      have := BS.row (b := b) (bs := [x]) (.ptr b bldD []) (.inr rfl) r cap (List.replicate (cap - 1) 0) (by simp; omega) (by omega)
      exact this
  | row p hp r cap rs hc h0 =>
    simp [Heap.keys] at hnd
    have hnd' : ¬ r = b := fun e => hnd e.symm
    have etk : (bys (bs ++ rs)).take bs.length = bys bs := by rw [bys_take, List.take_left]
    have edr : (bys (bs ++ rs)).drop (bs.length + 1) = bys (rs.drop 1) := by
      rw [bys_drop, List.drop_append, List.drop_eq_nil_of_le (by omega), List.nil_append, Nat.add_sub_cancel_left]
    refine ACalls.of_vc laid mixed Tryz.func67 rfl (by kernel_rfl) cf0 (by simp [Tryz.ntmps67]) fun imm0 w0 => ?_
    (simp (maxSteps := 2000000) (disch := first | omega | assumption) [zz])
    refine callV_sub (R := fun r' H' => r' = .tup [] ∧ H' = [(b, .var bldD (.agg [.ptr b bldD [], .msl r 5 0 bs.length cap]))]) [(b, .var bldD (.agg [p, .msl r 5 0 bs.length cap]))] [(r, .var (.arr cap 5) (.agg (bys (bs ++ rs))))] (List.Perm.refl _) rfl (by simp [argOK]) (by simp) ?_ ?_
    · have hpe : p.erk = p := by rcases hp with rfl | rfl <;> rfl
      simpa [TV.er, AV.er, Heap.er_cons, Heap.er_nil, HObj.er, AV.erk, AV.erks, hpe] using cc_any b p (.msl r 5 0 bs.length cap) hp rfl
    rintro r' H' ⟨rfl, rfl⟩ _
    refine ⟨_, HSub.refl _, ?_⟩
    (simp (maxSteps := 2000000) (disch := first | omega | assumption) [zz, hnd, hnd', etk, edr, ebx, ebc, bys_app])
    refine ⟨by omega, by omega, fun hx => ?_, fun hx r2 cap2 hr2 hr2' hcap2 => ?_⟩
    · (simp (maxSteps := 2000000) (disch := first | omega | assumption) [zz, Tryz.f67, hnd, hnd'])
      refine ⟨_, HSub.refl _, ?_⟩
      have := BS.row (b := b) (bs := bs ++ [x]) (.ptr b bldD []) (.inr rfl) r cap (rs.drop 1) (by simp; omega) h0
      simpa using this
    · have hr2b : ¬ b = r2 := fun e => hr2 e.symm
      (simp (maxSteps := 2000000) (disch := first | omega | assumption) [zz, Tryz.f67, hr2, hr2b, hr2', hnd, hnd', bys_rep, bys_app])
      refine ⟨_, ⟨_, List.Perm.swap _ _ _, ((List.Sublist.refl _).cons _).cons_cons _ |>.cons_cons _⟩, ?_⟩
      have := BS.row (b := b) (bs := bs ++ [x]) (.ptr b bldD []) (.inr rfl) r2 cap2 (List.replicate (cap2 - (bs.length + 1)) 0) (by simp; omega) (by omega)
      simpa using this
set_option maxHeartbeats 4000000 in
theorem string_ok (b : Nat) (bs : List UInt8) (H : Heap) (hB : BS b bs H) (hl : bs.length ≤ 100000000000) :
    ACalls Tryz.prog 68 [.av .ptr (.ptr b bldD [])] H fun r H' => r = .av .str (.s bs) := by
  refine ACalls.nodup fun hnd => ?_
  cases hB with
  | fresh p hp h =>
    subst h
    refine ACalls.of_vc laid mixed Tryz.func68 rfl (by kernel_rfl) cf0 (by simp [Tryz.ntmps68]) fun imm0 w0 => ?_
    (simp (maxSteps := 2000000) (disch := first | omega | assumption) [zz, Tryz.f68])
    (show barB _ _ = true; kernel_rfl)
  | row p hp r cap rs hc h0 =>
    simp [Heap.keys] at hnd
    have hnd' : ¬ r = b := fun e => hnd e.symm
    have hc0 : ¬ cap = 0 := by omega
    have etk : (bys (bs ++ rs)).take bs.length = bys bs := by rw [bys_take, List.take_left]
    have hbo := bytesOf_bys bs
    refine ACalls.of_vc laid mixed Tryz.func68 rfl (by kernel_rfl) cf0 (by simp [Tryz.ntmps68]) fun imm0 w0 => ?_
    (simp (maxSteps := 2000000) (disch := first | omega | assumption) [zz, hnd, hnd', etk, hc0, hbo])
    refine ⟨(show barB _ _ = true by kernel_rfl), by kernel_rfl, by omega, by omega, ?_⟩
    (simp (maxSteps := 2000000) (disch := first | omega | assumption) [zz, Tryz.f68])
end Go.Proofs.YthdgnfnalimcnaaGreatDoor
end
section
set_option maxRecDepth 100000
/-! pack.Row; a digest's bytes. -/
namespace Go.Proofs.YthdgnfnalimcnaaGreatDoor
open Go Go.Ab
open Classical
variable [Sel] [SelPow]

@[simp] theorem fnok35 : fnOK Tryz.prog 35 = true := by kernel_rfl
@[simp] theorem isne35 : isNE Tryz.prog (.func 35) = false := isNE_func fnok35
@[simp] theorem fnok64 : fnOK Tryz.prog 64 = true := by kernel_rfl
@[simp] theorem isne64 : isNE Tryz.prog (.func 64) = false := isNE_func fnok64
def rowV : List (List UInt8) → List UInt8
  | [] => []
  | s :: l => Lib.itoa s.length ++ 58 :: s ++ rowV l
theorem rowV_app : ∀ a b, rowV (a ++ b) = rowV a ++ rowV b
  | [], _ => rfl
  | s :: a, b => by
    have := rowV_app a b
    simp only [List.cons_append, rowV, this]
    simp
theorem rowV_take_le (l : List (List UInt8)) (k : Nat) : (rowV (l.take k)).length ≤ (rowV l).length := by
  conv => rhs; rw [← List.take_append_drop k l, rowV_app]
  simp
def strs' (l : List (List UInt8)) : List AV := l.map AV.s
theorem strs'_get (p : List (List UInt8)) (k : Nat) (h : k < p.length) : (strs' p)[k]? = some (.s p[k]) := by simp [strs', List.getElem?_eq_getElem h]
@[simp] theorem strs'_length (l : List (List UInt8)) : (strs' l).length = l.length := by simp [strs']
abbrev cfRow : Cfg := ⟨fun n => n == 3, fun n => n == 3⟩
set_option maxHeartbeats 8000000 in
theorem row_ok (l : List (List UInt8)) (hn : l.length ≤ 9223372036854775807) (hl : (rowV l).length ≤ 10000000000) :
    PC Tryz.prog 35 [.av (.slice 9) (.sl .no (strs' l))] (.av .str (.s (rowV l))) := by
  unfold PC
  refine ACalls.sub (R := fun r H' => r = .av .str (.s (rowV l))) ?_ (fun r H' hr _ => ⟨[], HSub.of_sub (List.nil_sublist _), hr, rfl⟩)
  refine ACalls.of_vc laid mixed Tryz.func35 rfl (by kernel_rfl) cfRow (by simp [Tryz.ntmps35]) fun imm0 w0 => ?_
  (simp (maxSteps := 2000000) (disch := first | omega | assumption) [zz])
  intro b
  refine AT.loop' (α := Nat × Heap) (fun x => St.of [(3, .av .ptr (.ptr b bldD [])), (6, .av (.slice 9) (.sl .no (strs' l))), (7, .av (.int .i64) (.i .i64 l.length)), (8, .av (.int .i64) (.i .i64 x.1))] [] (fun _ => 0) x.2)
    (fun x => x.1 ≤ l.length ∧ BS b (rowV (l.take x.1)) x.2) (fun x => l.length - x.1) (0, [(b, .var bldD (.agg [.nilptr, .nsl]))]) ?_ ?_ ?_
  · refine Le.of ?_ ?_ ?_ ?_ ?_ <;> simp [leTV, locsIn, encDigs, encTraces, encWant, encTrace, encReads, encRead, encMades, encMade, lk_nil] <;> try omega
  · exact ⟨by omega, .fresh _ (.inl rfl) rfl⟩
  rintro ⟨k, H⟩ ⟨hk, hB⟩ KL hN hE
  simp only at hk hB hN
  refine vc_sound (cf := cfRow) laid mixed _ _ _ (by kernel_rfl) ?_
  have htl := rowV_take_le l k
  by_cases hlt : k < l.length
  · have hlt' : (k : Int) < l.length := by omega
    have hg := strs'_get l k hlt
    have htl2 := rowV_take_le l (k+1)
    have hsn : rowV (l.take (k+1)) = rowV (l.take k) ++ Lib.itoa l[k].length ++ [58] ++ l[k] := by
      rw [List.take_succ_eq_append_getElem hlt, rowV_app]
      simp [rowV]
    rw [hsn] at htl2
    simp at htl2
    obtain ⟨s, hs⟩ : ∃ s, s = l[k] := ⟨_, rfl⟩
    rw [← hs] at hg hsn htl2
    (simp (maxSteps := 2000000) (disch := first | omega | assumption) [zz, hlt', hg])
    refine callV_pc (itoa_ok s.length (by omega) (by omega)) rfl rfl (by simp) (by simp [argLe, TV.er, AV.er]) ?_
    (simp (maxSteps := 2000000) (disch := first | omega | assumption) [zz])
    refine callV_all (R := fun r H' => r = .tup [(.int .i64, .i .i64 (Lib.itoa s.length).length), (.iface, .nilifc)] ∧ BS b (rowV (l.take k) ++ Lib.itoa s.length) H') rfl (by simp [argOK]) (by simp) ?_ ?_
    · have := ws_ok b (rowV (l.take k)) (Lib.itoa s.length) H hB (by omega)
      simpa [TV.er, AV.er, hB.er] using this
    rintro r H1 ⟨rfl, hB1⟩
    (simp (maxSteps := 2000000) (disch := first | omega | assumption) [zz])
    refine callV_all (R := fun r H' => r = .av .iface .nilifc ∧ BS b (rowV (l.take k) ++ Lib.itoa s.length ++ [58]) H') rfl (by simp [argOK]) (by simp) ?_ ?_
    · show ACalls _ _ _ (Heap.er H1) _
      rw [hB1.er]
      exact ACalls.args (wb_ok b (rowV (l.take k) ++ Lib.itoa s.length) 58 H1 hB1 (by simp; omega)) (by simp [argLe, TV.er, AV.er, coC])
    rintro r H2 ⟨rfl, hB2⟩
    (simp (maxSteps := 2000000) (disch := first | omega | assumption) [zz])
    refine callV_all (R := fun r H' => r = .tup [(.int .i64, .i .i64 s.length), (.iface, .nilifc)] ∧ BS b (rowV (l.take k) ++ Lib.itoa s.length ++ [58] ++ s) H') rfl (by simp [argOK]) (by simp) ?_ ?_
    · have := ws_ok b (rowV (l.take k) ++ Lib.itoa s.length ++ [58]) s H2 hB2 (by simp; omega)
      simpa [TV.er, AV.er, hB2.er] using this
    rintro r H3 ⟨rfl, hB3⟩
    (simp (maxSteps := 2000000) (disch := first | omega | assumption) [zz])
    refine hN _ (k+1, H3) ?_ ⟨by omega, by rw [hsn]; exact hB3⟩ (by simp; omega)
    refine Le.of ?_ ?_ ?_ ?_ ?_ <;> simp [leTV, locsIn, encDigs, encTraces, encWant, encTrace, encReads, encRead, encMades, encMade, lk_nil] <;> try omega
  · have hlt' : ¬ (k : Int) < l.length := by omega
    (simp (maxSteps := 2000000) (disch := first | omega | assumption) [zz, hlt'])
    refine hE _ _ (by simp) ?_
    rw [List.take_of_length_le (by omega)] at hB
    (simp (maxSteps := 2000000) (disch := first | omega | assumption) [zz])
    refine callV_all (R := fun r H' => r = .av .str (.s (rowV l))) rfl (by simp [argOK]) (by simp) ?_ ?_
    · have := string_ok b (rowV l) H hB (by omega)
      simpa [TV.er, AV.er, hB.er] using this
    rintro r H1 rfl
    (simp (maxSteps := 2000000) (disch := first | omega | assumption) [zz, Tryz.f35])
abbrev cfSum : Cfg := ⟨fun n => n == 1, fun _ => false⟩
theorem encD_bys (d : Dig) : encD d = .agg (bys d) := rfl
theorem dsum0_ok (d : Dig) (hd : d.length = 32) : PC Tryz.prog 64 [.av (.arr 32 5) (encD d)] (.av .str (.s d)) := by
  unfold PC
  refine ACalls.sub (R := fun r H' => r = .av .str (.s d)) ?_ (fun r H' hr _ => ⟨[], HSub.of_sub (List.nil_sublist _), hr, rfl⟩)
  refine ACalls.of_vc laid mixed Tryz.func64 rfl (by kernel_rfl) cfSum (by simp [Tryz.ntmps64]) fun imm0 w0 => ?_
  have h1 : (bys d).take 32 = bys d := List.take_of_length_le (by simp [hd])
  have h2 := bytesOf_bys d
  (simp (maxSteps := 2000000) (disch := first | omega | assumption) [zz, encD_bys, h1, h2])
  intro b
  (simp (maxSteps := 2000000) (disch := first | omega | assumption) [zz, Tryz.f64])
end Go.Proofs.YthdgnfnalimcnaaGreatDoor
end
