/- What the form's own reach tells of texts, settings and what is known. No condition beyond each theorem's own. -/
import Derived.Test.YtooipdkilgpojaaGreatDoorBPD
set_option linter.unusedSimpArgs false
set_option linter.unusedVariables false
set_option linter.unusedSectionVars false
set_option maxRecDepth 100000
/-! What the form's own reach tells of texts, settings and what is known. -/
namespace Go.Proofs.YtooipdkilgpojaaGreatDoor
open Go Go.Ab
open Classical
variable [Sel] [SelPow] [SelMax]

abbrev zDt {H:Type} (t:TypeId) (d:DataW H):Prop:=∀n∈d.weights Tryz.prog t,n≤1000000000000000
theorem zDA {H:Type} {t:TypeId} {d:DataW H} {s:Txt} (e:JG d=.s s) (h:zDt t d):s.length≤1000000000000000:=by
 cases d with
 | lit l=>cases l<;>simp[JG]at e;subst e;exact h _ (by simp[DataW.weights])
 | _=>simp[JG]at e
theorem zE3 {H:Type} {t u:TypeId} (ht:Tryz.prog.underlying t=some (.slice u)) (hu:0<Tryz.prog.bytesOf u) {d:DataW H} {xs:List AV} (e:JG d=.sl .no xs) (h:zDt t d) :
  xs.length≤1000000000000000∧∀x∈xs,∃y:DataW H,JG y=x∧zDt u y:=by
 cases d with
 | lit l=>cases l<;>simp[JG]at e
 | nil=>simp only[JG,AV.sl.injEq]at e;rw[←e.2];simp
 | slice es sp =>
  simp only[JG,AV.sl.injEq]at e
  obtain⟨_,e⟩:=e
  rw[W5]at e
  subst e
  have h':=h
  unfold zDt at h'
  rw[DataW.weights,ht]at h'
  simp only[List.mem_cons,List.mem_append]at h'
  refine⟨?_,fun x hx=>?_⟩
  ·have:=h' _ (.inl rfl)
   have h2:es.length+sp.length≤(es.length+sp.length)*Tryz.prog.bytesOf u:=Nat.le_mul_of_pos_right _ hu
   rw[List.length_map];omega
  ·obtain⟨y,hy,rfl⟩:=List.mem_map.1 hx
   refine⟨y,rfl,fun n hn=>h' n (.inr (.inl ?_))⟩
   clear h h' hx
   induction es with
   | nil=>cases hy
   | cons z es ih =>
    rw[DataW.weightsAll,List.mem_append]
    rcases List.mem_cons.1 hy with rfl|hy
    ·exact .inl hn
    ·exact .inr (ih hy)
 | _=>simp[JG]at e
theorem zDD {H:Type}:∀(l:List TypeId) (ps:List (DataW H)),(∀n∈DataW.weightsEach Tryz.prog l ps,n≤1000000000000000)→∀(i:Nat) f y,l[i]?=some f→ps[i]?=some y→zDt f y:=by
 intro l
 induction l with
 | nil=>intro ps _ i f y h1;simp at h1
 | cons t l ih =>
  intro ps h i f y h1 h2
  cases ps with
  | nil=>simp at h2
  | cons p ps =>
   rw[DataW.weightsEach]at h
   cases i with
   | zero=>simp at h1 h2;subst h1;subst h2;exact fun n hn=>h n (List.mem_append.2 (.inl hn))
   | succ i=>exact ih ps (fun n hn=>h n (List.mem_append.2 (.inr hn))) i f y (by simpa using h1) (by simpa using h2)
theorem zDJ {H:Type} {ts vs:List TypeId} {ds gs:List (DataW H)} (hz:(DataW.weightsEach Tryz.prog (ts++vs) (ds++gs)).all (·≤reachBytes)=true) (i:Nat) (f:TypeId) (y:DataW H) (h1:ts[i]?=some f) (h2:ds[i]?=some y):zDt f y:=by
 refine zDD (ts++vs) (ds++gs) (fun n hn=>?_) i f y (by rw[List.getElem?_append_left (List.getElem?_eq_some_iff.1 h1).1];exact h1) (by rw[List.getElem?_append_left (List.getElem?_eq_some_iff.1 h2).1];exact h2)
 have:n≤reachBytes:=by simpa using List.all_eq_true.1 hz n hn
 exact Nat.le_trans this (by decide)
theorem zDL {H:Type} {t:TypeId} {fs:Array Field} (ht:Tryz.prog.underlying t=some (.struct fs)) {d:DataW H} {xs:List AV} (e:JG d=.agg xs) (h:zDt t d) :
  ∃ps:List (DataW H),ps.map JG=xs∧∀(i:Nat) f y,(fs.toList.map (·.type))[i]?=some f→ps[i]?=some y→zDt f y:=by
 cases d with
 | lit l=>cases l<;>simp[JG]at e
 | agg ps =>
  simp only[JG,AV.agg.injEq]at e
  rw[W5]at e
  refine⟨ps,e,?_⟩
  unfold zDt at h
  rw[DataW.weights,ht]at h
  exact zDD _ _ h
 | _=>simp[JG]at e
theorem zEa {H:Type} {d:DataW H} {l:List KnV} (e:JG d=zL l) (h:zDt 28 d):l.length≤1000000000000000∧∀k∈l,k.data.length≤1000000000000000:=by
 obtain⟨h1,h2⟩:=zE3 Tryz.underlying28 (by simp) e h
 refine⟨by simpa using h1,fun k hk=>?_⟩
 obtain⟨y,e2,h3⟩:=h2 _ (List.mem_map.2 ⟨k,hk,rfl⟩)
 obtain⟨ps,e3,h4⟩:=zDL Tryz.underlying57 e2 h3
 simp only[List.map_eq_cons_iff,List.map_eq_nil_iff]at e3
 obtain⟨a,_,rfl,ha,b,_,rfl,hb,c,_,rfl,hc,rfl⟩:=e3
 exact zDA hc (h4 2 9 c rfl rfl)
theorem zEj {H:Type} {d:DataW H} {l:List (Txt × Txt)} (e:JG d=zS l) (h:zDt 24 d):l.length≤1000000000000000∧∀k∈l,k.2.length≤1000000000000000:=by
 obtain⟨h1,h2⟩:=zE3 Tryz.underlying24 (by simp) e h
 refine⟨by simpa using h1,fun k hk=>?_⟩
 obtain⟨y,e2,h3⟩:=h2 _ (List.mem_map.2 ⟨k,hk,rfl⟩)
 obtain⟨ps,e3,h4⟩:=zDL Tryz.underlying85 e2 h3
 simp only[List.map_eq_cons_iff,List.map_eq_nil_iff]at e3
 obtain⟨a,_,rfl,ha,b,_,rfl,hb,rfl⟩:=e3
 exact zDA hb (h4 1 9 b rfl rfl)
end Go.Proofs.YtooipdkilgpojaaGreatDoor
