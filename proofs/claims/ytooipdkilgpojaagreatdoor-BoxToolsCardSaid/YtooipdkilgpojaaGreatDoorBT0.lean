/- A box is its tool: plain. No condition beyond each theorem's own. -/
import Derived.Test.YtooipdkilgpojaaGreatDoorRW4ToGB1
import Derived.Test.YtooipdkilgpojaaGreatDoorBX7ToBL1
set_option linter.unusedSimpArgs false
set_option linter.unusedVariables false
set_option linter.unusedSectionVars false
set_option maxRecDepth 100000
/-! A box is its tool: plain. -/
namespace Go.Proofs.YtooipdkilgpojaaGreatDoor
open Go Go.Ab
open Classical
variable [Sel] [SelPow] [SelMax]

def zCX (known:List KnV) (p:Txt):KnV:=known.foldl (fun k x=>if x.path=p∧k.is=false then x else k) ⟨p,false,[]⟩
theorem zDr (known:List KnV) (p:Txt) (k:Nat) (h:k<known.length):zCX (known.take (k+1)) p=if known[k].path=p∧(zCX (known.take k) p).is=false then known[k] else zCX (known.take k) p:=by
 rw[List.take_succ_eq_append_getElem h,zCX,List.foldl_append];rfl
theorem zDp (p:Txt) (known:List KnV):(zCX known p).path=p:=by
 have:∀(l:List KnV) (k:KnV),k.path=p→(l.foldl (fun k x=>if x.path=p∧k.is=false then x else k) k).path=p:=by
  intro l
  induction l with
  | nil=>exact fun k h=>h
  | cons x l ih =>
   intro k h
   rw[List.foldl_cons]
   refine ih _ ?_
   split
   ·rename_i h1;exact h1.1
   ·exact h
 exact this known _ rfl
structure TrT (env:List (Txt × Txt)) (lines:List Txt) (known kn:List KnV) (wr:List DoV):Prop where
 pick:∀k∈kn,zCX known k.path=k
 far:∀j (h:j<kn.length),(Y9 env (kn.take j) lines st0).stop=⟨1,kn[j].path,[],0⟩∧(Y9 env (kn.take j) lines st0).wrote <+: wr
 nod:(wr.map (·.path)).Nodup
 may:∀k∈kn,yV k.path=true
 dat:∀k∈kn,k.is=true→k.data.length≤65536
section
variable {env:List (Txt × Txt)} {lines:List Txt} {known kn:List KnV} {wr:List DoV}
theorem TrT.nil (env:List (Txt × Txt)) (lines:List Txt) (known:List KnV):TrT env lines known [] []:=⟨by simp,fun j h=>absurd h (Nat.not_lt_zero _),by simp,by simp,by simp⟩
theorem TrT.write (h:TrT env lines known kn wr) (d:DoV) (hd:d.path∉wr.map (·.path)):TrT env lines known kn (wr++[d]) :=
 ⟨h.pick,fun j hj=>⟨(h.far j hj).1,(h.far j hj).2.trans (List.prefix_append _ _)⟩,by
  rw[List.map_append]
  refine List.nodup_append.2 ⟨h.nod,by simp,fun a ha c hc=>?_⟩
  simp only[List.map_cons,List.map_nil,List.mem_singleton]at hc
  subst hc
  exact fun e=>hd (e▸ha),h.may,h.dat⟩
theorem TrT.read {cs:List CmdV} (hl:∃i,yC i lines=.ok cs) (h:TrT env lines known kn wr) {r:RunV} {d:DoV} (hs:JB env (C9 cs) kn wr r d) (hk:d.kind=1) (hm:yV d.path=true) (hd:(zCX known d.path).is=true→(zCX known d.path).data.length≤65536) :
  TrT env lines known (kn++[zCX known d.path]) wr:=by
 obtain⟨i,hi⟩:=hl
 have hp:=zDp d.path known
 obtain⟨f1,f2⟩:=hs.far hi
 have hda:=hs.asks (hs.waits.1 hk)
 refine⟨fun k hk=>?_,fun j hj=>?_,h.nod,fun k hk=>?_,fun k hk=>?_⟩
 ·rcases List.mem_append.1 hk with hk|hk
  ·exact h.pick k hk
  ·rw[List.mem_singleton.1 hk,hp]
 ·rcases Nat.lt_or_ge j kn.length with h1|h1
  ·rw[List.take_append_of_le_length (by omega),List.getElem_append_left h1];exact h.far j h1
  ·have:j=kn.length:=by simp at hj;omega
   subst this
   have e:(kn++[zCX known d.path])[kn.length].path=d.path:=by simp[hp]
   rw[List.take_left' rfl,e,f1,f2]
   refine⟨?_,List.prefix_refl _⟩
   rw[hda]
 ·rcases List.mem_append.1 hk with hk|hk
  ·exact h.may k hk
  ·rw[List.mem_singleton.1 hk,hp];exact hm
 ·rcases List.mem_append.1 hk with hk|hk
  ·exact h.dat k hk
  ·rw[List.mem_singleton.1 hk];exact hd
abbrev zD1:List Txt:=[[42,42]]
theorem zE4 {L:List Txt} {p:Txt} (h1:p∉L) (h2:yV p=true):pJ L [] zD1 p=true:=by
 have h3:PZ [42,42]=true:=by decide
 have h4:qT 47 [42,42]=[[42,42]]:=by decide
 have h5:qT 47 p≠[]:=by
  cases p with
  | nil=>simp[qT]
  | cons c l =>
   rw[qT]
   split
   ·simp
   ·split<;>simp
 have:kE [[42,42]] (qT 47 p)=true:=by
  rw[kE.eq_def];simp[h5]
 simp[pJ,h1,wL,h2,h3,h4,this]
theorem TrT.right (h:TrT env lines known kn wr) {L:List Txt} (hL:∀p,p∈L↔p∈wr.map (·.path)) {wr':List DoV} (hp:wr' <+: wr):zfw L wr' :=
 ⟨(hp.map _).sublist.nodup h.nod,fun w hw=>(hL _).2 (List.mem_map.2 ⟨w,hp.subset hw,rfl⟩)⟩
theorem TrT.box {cs:List CmdV} (hl:∃i,yC i lines=.ok cs) (h:TrT env lines known kn wr) {L:List Txt} (hL:∀p,p∈L↔p∈wr.map (·.path)) (hno:∀k∈kn,k.path∉L) {j:Nat} (hj:j<kn.length) {wr':List DoV} {b:BoxV} (hb:WY env (C9 cs) (kn.take j) L (pJ L [] zD1) wr' b) :
  b.over=false∧b.asks=kn[j].path:=by
 obtain⟨g1,g2⟩:=hb.far ⟨hl⟩
 obtain⟨f1,f2⟩:=h.far j hj
 obtain⟨a1,a2,a3⟩:=g1.det (h.right hL f2)
 have hm:=zE4 (hno _ (List.getElem_mem hj)) (h.may _ (List.getElem_mem hj))
 have ho:b.over=false:=by rw[a1,ovF,f1];simp[hm]
 exact⟨ho,by rw[a3 ho,f1]⟩
theorem TrT.fin {cs:List CmdV} (hl:∃i,yC i lines=.ok cs) (h:TrT env lines known kn wr) {L:List Txt} (hL:∀p,p∈L↔p∈wr.map (·.path)) {r:RunV} {d:DoV} (hs:JB env (C9 cs) kn wr r d) (hk:d.kind≠1) {wr':List DoV} {b:BoxV} (hb:WY env (C9 cs) kn L (pJ L [] zD1) wr' b) :
  b.over=true∧b.wrote=wr.map pdW∧b.why=d.why∧(d.kind=3↔d.why=0):=by
 obtain⟨i,hi⟩:=hl
 obtain⟨g1,g2⟩:=hb.far ⟨⟨i,hi⟩⟩
 obtain⟨f1,f2⟩:=hs.far hi
 have hR:zfw L (Y9 env kn lines st0).wrote:=by rw[f2];exact h.right hL (List.prefix_refl _)
 obtain⟨a1,a2,a3⟩:=g1.det hR
 have hw:b.wrote=wr.map pdW:=by
  rcases g2 with g|g
  ·rw[←f2];exact g.2
  ·exact absurd hR g.2.2
 refine⟨by rw[a1,ovF,f1];simp[hk],hw,?_,?_⟩
 ·rw[a2,zzs,f1,f2,if_neg hk]
  by_cases h3:d.kind=3
  ·rw[if_pos h3,if_pos fun p hp=>(hL p).1 hp]
   rcases hs.ov with g|g|g
   ·exact absurd g.1 hk
   ·rw[g.2]
   ·rw[h3]at g;exact absurd g.1 (by decide)
  ·rw[if_neg h3]
 ·rcases hs.ov with g|g|g
  ·exact absurd g.1 hk
  ·rw[g.2];simp
  ·rw[g.1];simp[g.2]
end
end Go.Proofs.YtooipdkilgpojaaGreatDoor
