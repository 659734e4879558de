/- The sort of digests. No condition beyond each theorem's own. -/
import Derived.Test.YthdgnfnalimcnaaGreatDoorE1
import Derived.Test.YthdgnfnalimcnaaGreatDoorShelf3
set_option linter.unusedSimpArgs false
set_option linter.unusedVariables false
set_option linter.unusedSectionVars false
set_option maxRecDepth 100000
/-! The sort of digests. -/
namespace Go.Proofs.YthdgnfnalimcnaaGreatDoor
open Go Go.Ab
open Classical
variable [Sel]
open Go.Sort (grow mapBlock putCells putRow ahead Holds onCells SWO PermIn SortedIn flatK get_flatK size_flatK HoldsK putRowK)

theorem VL_split {P : Program} {g : Gh} {w : World} {e : TypeId} : ∀ {xs ys : List AV} {c : List Value}, VL P g w e (xs ++ ys) c → ∃ c1 c2, c = c1 ++ c2 ∧ VL P g w e xs c1 ∧ VL P g w e ys c2
  | [], ys, c, h => ⟨[], c, rfl, by simp [VL], h⟩
  | x :: xs, ys, c, h => by
    simp only [List.cons_append, VL] at h
    obtain ⟨a, r, rfl, h1, h2⟩ := h
    obtain ⟨c1, c2, rfl, h3, h4⟩ := VL_split h2
    exact ⟨a ++ c1, c2, by simp, by simp only [VL]; exact ⟨a, c1, rfl, h1, h3⟩, h4⟩
def byC (d : List UInt8) : List Value := d.map fun b => Value.int .u8 b.toNat
theorem VL_encB {P : Program} {g : Gh} {w : World} {e : TypeId} (he : tyOf P e = .int .u8) : ∀ (d : List UInt8) (c : List Value), VL P g w e (encB d) c ↔ c = byC d
  | [], c => by simp [encB, byC, VL]
  | b :: d, c => by
    have ih := VL_encB (g := g) (w := w) he d
    simp only [encB, byC, List.map_cons, VL] at ih ⊢
    constructor
    · rintro ⟨c1, c2, rfl, h1, h2⟩
      rw [he] at h1
      simp only [VC] at h1
      rw [h1.2, (ih c2).1 h2]; rfl
    · rintro rfl
      exact ⟨[_], _, rfl, by rw [he]; simp [VC], (ih _).2 rfl⟩
theorem VC_encD {P : Program} {g : Gh} {w : World} {e : TypeId} (he : tyOf P e = .int .u8) (d : Dig) (c : List Value) : VC P g w (.arr 32 e) (encD d) c ↔ d.length = 32 ∧ c = byC d := by
  rw [encD_encB]
  simp only [VC, encB_length, VL_encB he]
theorem VL_keys {P : Program} {g : Gh} {w : World} {D e : TypeId} (hD : tyOf P D = .arr 32 e) (he : tyOf P e = .int .u8) : ∀ (ks : List Dig) (c : List Value), VL P g w D (ks.map encD) c ↔ (∀ k ∈ ks, k.length = 32) ∧ c = ks.flatMap byC
  | [], c => by simp [VL]
  | k :: ks, c => by
    have ih := VL_keys (g := g) (w := w) hD he ks
    simp only [List.map_cons, VL, List.flatMap_cons]
    constructor
    · rintro ⟨c1, c2, rfl, h1, h2⟩
      rw [hD, VC_encD he] at h1
      obtain ⟨h3, h4⟩ := (ih c2).1 h2
      exact ⟨fun x hx => by
        rcases List.mem_cons.1 hx with rfl | hx
        · exact h1.1
        · exact h3 x hx, by rw [h1.2, h4]⟩
    · rintro ⟨h1, rfl⟩
      exact ⟨_, _, rfl, by rw [hD, VC_encD he]; exact ⟨h1 k (by simp), rfl⟩, (ih _).2 ⟨fun x hx => h1 x (List.mem_cons_of_mem _ hx), rfl⟩⟩
abbrev D32 := {d : List UInt8 // d.length = 32}
instance : Inhabited D32 := ⟨⟨List.replicate 32 0, by simp⟩⟩
def enc32 (x : D32) : List Value := byC x.1
theorem enc32_len (x : D32) : (enc32 x).length = 32 := by simp [enc32, byC, x.2]
theorem flat_get : ∀ (l : List D32) (t : Nat), t < l.length * 32 → (l.flatMap enc32)[t]? = some ((enc32 l[t / 32]!)[t % 32]!)
  | [], t, h => by simp at h
  | x :: l, t, h => by
    rw [List.flatMap_cons]
    by_cases ht : t < 32
    · rw [List.getElem?_append_left (by rw [enc32_len]; exact ht)]
      have e1 : t / 32 = 0 := Nat.div_eq_of_lt ht
      have e2 : t % 32 = t := Nat.mod_eq_of_lt ht
      rw [e1, e2]
      have e3 : (x :: l)[0]! = x := rfl
      rw [e3, getElem!_pos (enc32 x) t (by rw [enc32_len]; exact ht), List.getElem?_eq_getElem (by rw [enc32_len]; exact ht)]
    · have ih := flat_get l (t - 32) (by simp at h; omega)
      rw [List.getElem?_append_right (by rw [enc32_len]; omega), enc32_len, ih]
      have e1 : t / 32 = (t - 32) / 32 + 1 := by omega
      have e2 : t % 32 = (t - 32) % 32 := by omega
      rw [e1, e2]
      have e3 : (x :: l)[(t - 32) / 32 + 1]! = l[(t - 32) / 32]! := by simp
      rw [e3]
theorem flatK_list (d : Array D32) : (flatK enc32 32 d).toList = d.toList.flatMap enc32 := by
  have hlen : (d.toList.flatMap enc32).length = d.size * 32 := by
    have : ∀ l : List D32, (l.flatMap enc32).length = l.length * 32 := by
      intro l
      induction l with
      | nil => rfl
      | cons x l ih => rw [List.flatMap_cons, List.length_append, ih, enc32_len]; simp; omega
    rw [this]; simp
  apply List.ext_getElem?
  intro t
  by_cases ht : t < d.size * 32
  · rw [flat_get _ t (by simpa using ht)]
    have h1 := get_flatK enc32 32 d t ht
    rw [getElem!_pos (flatK enc32 32 d) t (by simpa using ht)] at h1
    have hb : t / 32 < d.size := by omega
    rw [Array.getElem?_toList, Array.getElem?_eq_getElem (by simpa using ht), h1, getElem!_pos d (t / 32) hb, getElem!_pos d.toList (t / 32) (by simpa using hb)]
    rfl
  · rw [List.getElem?_eq_none (by simp; omega), List.getElem?_eq_none (by rw [hlen]; omega)]
theorem putCells_list (F cs : Array Value) (h : F.size ≤ cs.size) : (putCells id 0 F cs).toList = F.toList ++ cs.toList.drop F.size := by
  apply List.ext_getElem?
  intro t
  simp only [putCells, Array.getElem?_toList, Array.getElem?_mapIdx]
  by_cases ht : t < F.size
  · rw [List.getElem?_append_left (by simpa using ht), Array.getElem?_eq_getElem (by omega), Option.map_some, if_pos ⟨Nat.zero_le _, by omega⟩]
    rw [Array.getElem?_toList, Array.getElem?_eq_getElem ht]
    simp [getElem!_pos F t ht]
  · rw [List.getElem?_append_right (by simp; omega), List.getElem?_drop]
    have e1 : F.size + (t - F.toList.length) = t := by simp; omega
    rw [e1, Array.getElem?_toList]
    cases hc : cs[t]? with
    | none => rfl
    | some y => rw [Option.map_some, if_neg (by omega)]
theorem mapBlock_setRow {w : World} {b : Nat} {cs : Array Value} {E : TypeId} {fz : Nat × Nat} (hb : w.heap[b]? = some (.cells cs E fz)) (f : Array Value → Array Value) : mapBlock w b f = w.setRow b (f cs) := by
  have hlt := (Array.getElem?_eq_some_iff.1 hb).1
  unfold mapBlock World.setRow
  congr 1
  apply Array.ext_getElem?
  intro k
  simp only [Array.getElem?_modify]
  by_cases hk : b = k
  · subst hk
    simp [hb, onCells]
  · simp [hk]
theorem SRel.grow {c : Ctx} {s : St} {a : Act} {w : World} {g : Gh} {β : Nat → Nat} (h : SRel c s a w g β) : ∀ (l : List Obj), SRel c s a (Go.Sort.grow w l.toArray) g β := by
  intro l
  induction l generalizing w with
  | nil => simpa using h
  | cons o l ih =>
    have h1 := h.push o 0 (by omega)
    have eg : ({ g with imm := upd g.imm w.heap.size 0 } : Gh) = g := by
      have : upd g.imm w.heap.size 0 = g.imm := by
        funext b; simp only [upd]; split
        · rename_i e; rw [e, imm_new h.rep.imm (Nat.le_refl _)]
        · rfl
      rw [this]
    rw [eg] at h1
    have h2 := ih h1
    have e2 : Go.Sort.grow (World.push' w o) l.toArray = Go.Sort.grow w (o :: l).toArray := by
      unfold Go.Sort.grow World.push'
      simp only [World.mk.injEq, and_true]
      apply Array.toList_inj.1
      simp only [Array.toList_append, Array.toList_push, List.append_assoc, List.cons_append, List.nil_append]
    rw [e2] at h2
    exact h2

def cf32 (x y : D32) : Int := Lib.compareBytes x.1 y.1
theorem swo32 : SWO (ltOf cf32) where
  irrefl x := ltL_irrefl x.1
  trans x y z h1 h2 := ltL_trans h1 h2
  ntrans x y z h1 h2 := ltL_ntrans h1 h2
theorem cmpLays_ok (b size : Nat) (w : World) : CmpLays Tryz.prog 45 #[] enc32 32 cf32 b 0 size w := by
  intro m os dk _ x y
  letI : Sel := ⟨fun n => n == "+drawn"⟩
  have h := keyCmp_ok x.1 y.1 x.2 y.2
  generalize sortWorldK enc32 32 w b 0 m dk os = W
  have htab : TabOK Tryz.prog (fun _ => 0) W := by
    refine ⟨fun n d x hx => ?_, fun n hn => ?_⟩
    · unfold tabs at hx
      obtain ⟨k, _, hk⟩ := List.mem_filterMap.1 hx
      split at hk
      · rename_i gl _
        split at hk
        · rename_i ho
          have e : gl.name = "+drawn" := by
            have : (gl.name == "+drawn") = true := ho
            simpa using this
          rw [e] at hk
          have e2 : stdTab "+drawn" = none := by decide
          rw [e2] at hk; cases hk
        · cases hk
      · cases hk
    · unfold errVars at hn
      have hh := (List.mem_filter.1 hn).2
      split at hh
      · rename_i gl _
        rw [Bool.and_eq_true] at hh
        obtain ⟨ho, hh⟩ := hh
        have e : gl.name = "+drawn" := by
          have : (gl.name == "+drawn") = true := ho
          simpa using this
        rw [e] at hh
        exact absurd hh (by decide)
      · cases hh
  have hrep : Rep Tryz.prog (g0 fun _ => 0) W [] := ⟨fun b hb => by simp [g0] at hb, List.nodup_nil, by simp, htab⟩
  have hargs : ARs Tryz.prog (g0 fun _ => 0) W [.av (.arr 32 5) (encD x.1), .av (.arr 32 5) (encD y.1)] (#[Value.agg (enc32 x).toArray, Value.agg (enc32 y).toArray] ++ (#[] : Array Value)).toList := by
    have one : ∀ z : D32, AR Tryz.prog (g0 fun _ => 0) W (.av (.arr 32 5) (encD z.1)) (Value.agg (enc32 z).toArray) := fun z =>
      ⟨rfl, (VC_encD (ty5) z.1 _).2 ⟨z.2, by simp [Value.cells, enc32]⟩⟩
    exact ⟨one x, one y, trivial⟩
  refine (h (fun _ => 0) W _ hrep hargs).mono ?_
  rintro e w' ⟨v, r, imm', H', rfl, ⟨rfl, rfl⟩, hv, _, st⟩
  have hv' : v = .int .i64 (cf32 x y) := by
    obtain ⟨f, hv⟩ := hv
    simp only [VC] at hv
    rw [cells_one rfl f] at hv
    simpa [cf32] using hv
  refine ⟨by rw [hv'], w'.drawn - W.drawn, (w'.heap.toList.drop W.heap.size).toArray, ?_⟩
  have hd := st.drawn rfl
  have hh : W.heap ++ (w'.heap.toList.drop W.heap.size).toArray = w'.heap := by
    apply Array.toList_inj.1
    rw [Array.toList_append]
    apply List.ext_getElem?
    intro t
    by_cases ht : t < W.heap.size
    · rw [List.getElem?_append_left (by simpa using ht)]
      have := (st.frame t ht (by simp [Heap.keys])).1
      simpa using this.symm
    · rw [List.getElem?_append_right (by simp; omega), List.getElem?_drop]
      congr 1
      simp; omega
  obtain ⟨h1, h2, h3, h4, h5⟩ := w'
  simp only at hd hh
  unfold Go.Sort.grow World.drewN
  simp only [World.mk.injEq]
  exact ⟨hh.symm, st.tape, by omega, st.os, st.output⟩
theorem fn_val {P : Program} {g : Gh} {w : World} {f : FuncId} {v : Value} (h : VV P g w .func (.fn f []) v) : v = .func (.func f) #[] #[] := by
  obtain ⟨f', h⟩ := h
  simp only [VC, VA] at h
  obtain ⟨_, vs, h1, h2⟩ := h
  rw [cells_one rfl f'] at h1
  subst h2
  simpa using h1
theorem sort_ok (ks : List Dig) (hk : ∀ k ∈ ks, k.length = 32) (b cap : Nat) (j : List AV) (hcap : ks.length + j.length = cap) (hn : ks.length ≤ 1000000) :
    ACalls Tryz.prog 76 [.av (.slice 30) (.msl b 30 0 ks.length cap), .av .func (.fn 45 [])] [(b, .var (.arr cap 30) (.agg (ks.map encD ++ j)))]
      fun r H' => r = .tup [] ∧ ∃ ks' : List Dig, ks'.Perm ks ∧ ks'.Pairwise (fun x y => ltL y x = false) ∧ H' = [(b, .var (.arr cap 30) (.agg (ks'.map encD ++ j)))] := by
  intro imm w vs hrep hargs
  obtain ⟨vs⟩ := vs
  match vs, hargs with
  | [v1, v2], ⟨h1, h2, _⟩ =>
    have e2 := fn_val h2
    obtain ⟨f1, h1⟩ := h1
    simp only [VC] at h1
    obtain ⟨_, h1⟩ := h1
    rw [cells_one rfl f1, Nat.zero_mul] at h1
    have e1 : v1 = .slice (some ⟨b, 0, none⟩) ks.length cap := by simpa using h1
    subst e1; subst e2
    obtain ⟨h0, cs, hcs, hvc⟩ := hrep.obj b (.var (.arr cap 30) (.agg (ks.map encD ++ j))) (by simp)
    obtain ⟨E, fz, hb, hfz⟩ := strict_cells hcs
    simp only [VC] at hvc
    obtain ⟨hm, hvl⟩ := hvc
    obtain ⟨c1, c2, hcc, hv1, hv2⟩ := VL_split hvl
    have hDt := ty30
    have hut := ty5
    rw [VL_keys hDt hut] at hv1
    obtain ⟨_, rfl⟩ := hv1
    obtain ⟨d, hd⟩ : ∃ d : Array D32, d.toList.map (·.1) = ks := ⟨(ks.attach.map fun k => (⟨k.1, hk k.1 k.2⟩ : D32)).toArray, by simp [List.map_map, Function.comp_def]⟩
    have hds : d.size = ks.length := by rw [← hd]; simp
    have hfm : ks.flatMap byC = d.toList.flatMap enc32 := by rw [← hd, List.flatMap_map]; rfl
    have hfl : (flatK enc32 32 d).toList = ks.flatMap byC := by rw [flatK_list, hfm]
    have hfs : (flatK enc32 32 d).size = ks.length * 32 := by simp [hds]
    have hle : (flatK enc32 32 d).size ≤ cs.size := by
      rw [← Array.length_toList, ← Array.length_toList (xs := cs), hcc, hfl]; simp
    have hlt : b < w.heap.size := (Array.getElem?_eq_some_iff.1 hb).1
    have hH : HoldsK enc32 32 w b 0 d := by
      intro t ht
      rw [Nat.zero_add]
      refine ⟨?_, ?_⟩
      · rw [cell_of hb]
        have e3 : cs[t]? = cs.toList[t]? := by simp
        rw [e3, hcc, ← hfl, List.getElem?_append_left (by simpa using ht), Array.getElem?_toList, Array.getElem?_eq_getElem ht, getElem!_pos _ t ht]
        rfl
      · simp only [World.frozen?, hb, Bool.and_eq_false_iff, decide_eq_false_iff_not]
        omega
    have hcall := AnyQ.slices_SortFunc Tryz.sortD 32 Tryz.isAgg30 Tryz.sizeOf30 enc32 enc32_len (fun x v hv => by
        obtain ⟨z, _, rfl⟩ := List.mem_map.1 hv; rfl) cf32 swo32 45 #[] b 0 cap d w
      (enters_of Tryz.func45 (by kernel_rfl) rfl) (cmpLays_ok b d.size w) hH hlt (by omega)
    rw [hds] at hcall
    refine Calls.mono hcall ?_
    rintro e w' ⟨rfl, d', n, os, hperm, hsort, rfl⟩
    have hds' : d'.size = ks.length := hperm.1.trans hds
    have hpl : d'.toList.Perm d.toList := by
      have := hperm.2.2
      have e1 : d'.extract 0 ks.length = d' := by rw [← hds']; simp
      have e2 : d.extract 0 ks.length = d := by rw [← hds]; simp
      rwa [e1, e2] at this
    have hfl' : (flatK enc32 32 d').toList = (d'.toList.map (·.1)).flatMap byC := by rw [flatK_list, List.flatMap_map]; rfl
    have hfs' : (flatK enc32 32 d').size = (flatK enc32 32 d).size := by simp [hds, hds']
    have hS : SRel ⟨Tryz.prog, 0, imm, [(b, .var (.arr cap 30) (.agg (ks.map encD ++ j)))], w, none⟩ { env := fun _ => .junk, loc := fun _ => none, ver := fun _ => 0, H := [(b, .var (.arr cap 30) (.agg (ks.map encD ++ j)))] } { tmps := #[], defers := [] } w (g0 imm) (fun _ => 0) := {
      defers := ⟨rfl, List.nodup_nil, fun D hD => by simp at hD⟩
      size := rfl
      env := fun t => trivial
      locs := fun k d x e => by simp at e
      inj := fun k j e => by simp at e
      rep := hrep
      toks := fun k t e => by simp [g0] at e
      tokd := fun k k' t t' e => by simp [g0] at e
      toknew := fun k v _ => rfl
      step := Step.refl }
    have hS1 := hS.drew (w.drawn + n) (Nat.le_add_right _ _)
    have hS2 := hS1.setH (b := b) (d := .arr cap 30) (x := .agg (ks.map encD ++ j)) (y := .agg ((d'.toList.map (·.1)).map encD ++ j)) (cs := putCells id 0 (flatK enc32 32 d') cs) (by simp [hget]) hcs (by simp [putCells]) (by
      rw [putCells_list _ _ (by rw [hfs']; exact hle), hfs', hfl', hcc, ← hfl]
      have e4 : ((flatK enc32 32 d).toList ++ c2).drop (flatK enc32 32 d).size = c2 := by
        rw [List.drop_append, List.drop_of_length_le (by simp)]; simp
      rw [e4]
      simp only [VC]
      refine ⟨by rw [List.length_append, List.length_map, List.length_map, Array.length_toList, hds']; exact hcap, VL_append ((VL_keys hDt hut _ _).2 ⟨fun k hk => ?_, rfl⟩) (VL_mono (w' := { w with drawn := w.drawn + n }) (Gh.le_refl _) hrep.imm (fun b cs E fz _ hb => ⟨cs, E, fz, hb, rfl, fun _ _ => rfl⟩) _ _ _ hv2)⟩
      obtain ⟨z, _, rfl⟩ := List.mem_map.1 hk
      exact z.2)
    have hS3 := SRel.grow hS2 os.toList
    have ew : Go.Sort.grow (World.setRow { w with drawn := w.drawn + n } b (putCells id 0 (flatK enc32 32 d') cs)) os.toList.toArray = sortWorldK enc32 32 w b 0 n d' os := by
      unfold sortWorldK putRowK putRow
      rw [mapBlock_setRow (w := Go.Sort.ahead w n) (b := b) (cs := cs) (E := E) (fz := fz) hb]
      simp [Go.Sort.ahead]
    rw [ew] at hS3
    have eh : hset [(b, HObj.var (.arr cap 30) (.agg (ks.map encD ++ j)))] b (.var (.arr cap 30) (.agg ((d'.toList.map (·.1)).map encD ++ j))) = [(b, .var (.arr cap 30) (.agg ((d'.toList.map (·.1)).map encD ++ j)))] := by simp [hset]
    refine ⟨.tuple #[], .tup [], imm, [(b, .var (.arr cap 30) (.agg ((d'.toList.map (·.1)).map encD ++ j)))], rfl, ⟨rfl, d'.toList.map (·.1), ?_, ?_, rfl⟩, ⟨[], rfl, trivial⟩, ?_, ?_⟩
    · rw [← hd]; exact hpl.map _
    · rw [List.pairwise_map]
      rw [List.pairwise_iff_getElem]
      intro i k hi hk hik
      have := hsort i k (Nat.zero_le _) hik (by simpa [hds'] using hk)
      simp only [Array.length_toList] at hi hk
      rw [getElem!_pos d' k hk, getElem!_pos d' i hi] at this
      exact this
    · have := hS3.rep
      simp only [eh] at this
      exact this
    · have := hS3.step
      simp only [eh] at this
      exact this
end Go.Proofs.YthdgnfnalimcnaaGreatDoor
