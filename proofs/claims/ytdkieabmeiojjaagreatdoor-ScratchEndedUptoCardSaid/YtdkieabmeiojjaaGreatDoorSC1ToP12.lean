/- What a builder has: what is over, what is under way, what is waited fo. No condition. -/
import Derived.Test.YtdkieabmeiojjaaGreatDoorBE1aToSC0
set_option linter.unusedSimpArgs false
set_option linter.unusedVariables false
set_option linter.unusedSectionVars false
set_option maxHeartbeats 64000000
section
set_option maxRecDepth 100000
namespace Go.Proofs.YtdkieabmeiojjaaGreatDoor
open Go Go.Ab
open Classical
variable [Sel] [SelPow] [SelMax]
theorem zbU {S:wB} {i:Nat} {o:wZ} (h:jL S i=some o):o.kind=1\/o.kind=2:=by
 rw[za0]at h
 unfold uK at h
 cases hg:goF (kJ S (jL S)) 600 (S.b0 i)with
 | none=>simp_all
 | some b =>
  rw[hg]at h
  simp only at h
  by_cases hov:b.over=true
  ·rw[if_pos hov]at h
   cases h
   unfold ZH
   grind
  grind
theorem D1 (S:wB) (i:Nat):((kS S i).kind=3/\jL S i=none)\/(jL S i=some (kS S i)/\((kS S i).kind=1\/(kS S i).kind=2)):=by
 cases h:jL S i with
 | none=>simp_all[kS]
 | some o =>
  have:kS S i=o:=by simp_all[kS]
  rw[this]
  exact .inr ⟨rfl,zbU h⟩
noncomputable def JD (S:wB) (W:List Nat) (p:Txt):KnV × Int:=match S.who p with
 | none=>(JI S.fs p,1)
 | some j=>if j∈W then(⟨p,false,[]⟩,3) else if (kS S j).kind=1 then(JI (kS S j).outs p,1) else(⟨p,false,[]⟩,(kS S j).kind)
def zgk (S:wB) (W:List Nat) (i:Nat):Prop:=∀w∈W,Relation.TransGen (KC S) w i
theorem zgk.cons {S:wB} {W:List Nat} {i j:Nat} (h:zgk S W i) (hw:KC S i j):zgk S (W++[i]) j:=fun w hw2=>by
 rcases List.mem_append.1 hw2 with h2|h2
 ·exact(h w h2).tail hw
 ·rw[List.mem_singleton.1 h2];exact .single hw
theorem zfy {S:wB} {W:List Nat} {i:Nat} (hp:zgk S W i) (he:zfa S i) {b:zJ} (hr:kL (kJ S (jL S)) (S.b0 i) b) (ho:b.over=false) :
  ((JD S (W++[i]) b.asks).2=1/\kJ S (jL S) b.asks=some (JD S (W++[i]) b.asks).1)\/
  ((JD S (W++[i]) b.asks).2=2/\kS S i=⟨2,16,[],b.reads⟩/\kJ S (jL S) b.asks=none)\/
  ((JD S (W++[i]) b.asks).2=3/\kS S i=⟨3,11,[],b.reads⟩/\(jL S i=none/\xF S i=b)/\kJ S (jL S) b.asks=none):=by
 have hno:∀j,S.who b.asks=some j->jL S j=none->kJ S (jL S) b.asks=none:=fun j h1 h2=>by
  simp_all[kJ]
 unfold JD
 cases hm:S.who b.asks with
 | none=>simp_all[kJ]
 | some j =>
  have hw:KC S i j:=⟨b.asks,⟨b,hr,ho,rfl⟩,hm⟩
  simp only
  by_cases hj:j∈W++[i]
  ·rw[if_pos hj]
   have hl:jL S j=none:=by
    rcases List.mem_append.1 hj with h|h
    ·exact U6 ((hp j h).tail hw)
    ·have e:=List.mem_singleton.1 h
     subst e
     exact U6 (.single hw)
   obtain⟨h1,h2,h3⟩:=zbb he hr ho hm hl
   simp_all
  ·rw[if_neg hj]
   rcases D1 S j with⟨hk,hl⟩|⟨hl,hk|hk⟩
   ·rw[if_neg (by omega)]
    grind [zbb]
   ·simp_all[kJ]
   ·rw[if_neg (by omega)]
    refine .inr (.inl ⟨hk,(CG he hr ho hm hl hk).1,?_⟩)
    simp_all[kJ]
structure BdV where
 ov:List (Nat × wZ)
 wt:List (Nat × Txt)
structure KN (S:wB) (n:Nat) (W:List Nat) (x:BdV):Prop where
 fin:∀p∈x.ov,p.1<n/\p.2=kS S p.1
 nd:(x.ov.map Prod.fst).Nodup
 st:∀p∈x.ov,jL S p.1=none->x.wt.find? (fun q=>decide (q.1=p.1))=some (p.1,(xF S p.1).asks)/\∃m,S.who (xF S p.1).asks=some m/\(m∈x.ov.map Prod.fst\/m∈W)
 wnd:W.Nodup
 wn:∀w∈W,w<n/\w∉x.ov.map Prod.fst
 wt:∀q∈x.wt,q.1∈x.ov.map Prod.fst\/q.1∈W
 cl:∀p∈x.ov,∀j,KC S p.1 j->j∈x.ov.map Prod.fst\/j∈W
def PQ (S:wB) (x x':BdV) (i:Nat):Prop:=∀j,j∈x'.ov.map Prod.fst->j∈x.ov.map Prod.fst\/j=i\/Relation.TransGen (KC S) i j
def ziO (S:wB) (x x':BdV) (p:Txt):Prop:=∀j,j∈x'.ov.map Prod.fst->j∈x.ov.map Prod.fst\/∃m,S.who p=some m/\(j=m\/Relation.TransGen (KC S) m j)
theorem PQ.refl (S:wB) (x:BdV) (i:Nat):PQ S x x i:=fun _ h=>.inl h
theorem ziO.refl (S:wB) (x:BdV) (p:Txt):ziO S x x p:=fun _ h=>.inl h
theorem PQ.step {S:wB} {x y z:BdV} {i:Nat} {p:Txt} (h:PQ S x y i) (h2:ziO S y z p) (ha:zoI S i p):PQ S x z i:=fun j hj=>by
 rcases h2 j hj with h3|⟨m,hm,h3⟩
 ·exact h j h3
 ·rcases h3 with rfl|h3
  ·exact .inr (.inr (.single ⟨p,ha,hm⟩))
  ·exact .inr (.inr (.trans (.single ⟨p,ha,hm⟩) h3))
theorem PQ.done {S:wB} {x y:BdV} {i:Nat} (h:PQ S x y i) (o:wZ) (wt:List (Nat × Txt)):PQ S x ⟨y.ov++[(i,o)],wt⟩ i:=fun j hj=>by
 rw[List.map_append,List.mem_append]at hj
 rcases hj with hj|hj
 ·exact h j hj
 simp_all
def xJ (S:wB) (i:Nat) (L:List Nat) (b:zJ):Prop:=∀c,kL (kJ S (jL S)) (S.b0 i) c->c.over=false->kL (kJ S (jL S)) b c\/∀j,S.who c.asks=some j->j∈L
theorem xJ.start (S:wB) (i:Nat) (L:List Nat):xJ S i L (S.b0 i):=fun _ h _=>.inl h
theorem xJ.mono {S:wB} {i:Nat} {L L':List Nat} {b:zJ} (h:xJ S i L b) (hL:∀j∈L,j∈L'):xJ S i L' b:=fun c h1 h2=>(h c h1 h2).imp_right fun h j hj=>hL j (h j hj)
theorem xJ.step {S:wB} {i:Nat} {L:List Nat} {b:zJ} {k:KnV} (h:xJ S i L b) (hk:kJ S (jL S) b.asks=some k) (hm:∀j,S.who b.asks=some j->j∈L):xJ S i L (y4 k b).2:=fun c h1 h2=>by
 rcases h c h1 h2 with h3|h3
 ·cases h3 with
  | refl=>exact .inr hm
  | step g1 g2 g3 =>
   simp_all
 simp_all
theorem xJ.over {S:wB} {i:Nat} {L:List Nat} {b:zJ} (h:xJ S i L b) (ho:b.over=true):∀j,KC S i j->j∈L:=fun j ⟨p,⟨c,h1,h2,h3⟩,h4⟩=>by
 rcases h c h1 h2 with h5|h5
 ·cases h5 with
  | refl=>simp_all
  | step g1 _ _=>simp_all
 simp_all
theorem xJ.stop {S:wB} {i:Nat} {L:List Nat} {b:zJ} (h:xJ S i L b) (hn:kJ S (jL S) b.asks=none) (hm:∀j,S.who b.asks=some j->j∈L):∀j,KC S i j->j∈L:=fun j ⟨p,⟨c,h1,h2,h3⟩,h4⟩=>by
 rcases h c h1 h2 with h5|h5
 ·cases h5 with
  | refl=>simp_all
  | step _ g2 _=>simp_all
 simp_all
theorem KN.begin {S:wB} {n:Nat} {W:List Nat} {x:BdV} {i:Nat} (h:KN S n W x) (hi:i<n) (hW:i∉W) (hx:i∉x.ov.map Prod.fst):KN S n (W++[i]) x where
 fin:=h.fin
 nd:=h.nd
 st:=fun p hp hl=>by
  obtain⟨h1,m,h2,h3⟩:=h.st p hp hl
  grind
 wnd:=by
  rw[List.nodup_append]
  exact⟨h.wnd,by simp,fun a ha b hb=>by grind⟩
 wn:=fun w hw=>by
  rcases List.mem_append.1 hw with hw|hw
  ·exact h.wn w hw
  simp_all
 wt:=fun q hq=>(h.wt q hq).imp_right fun h=>List.mem_append_left _ h
 cl:=fun p hp j hj=>(h.cl p hp j hj).imp_right fun h=>List.mem_append_left _ h
theorem KN.done {S:wB} {n:Nat} {W:List Nat} {x:BdV} {i:Nat} (h:KN S n (W++[i]) x) (wt':List (Nat × Txt)) (h1:∀j,j≠i->wt'.find? (fun q=>decide (q.1=j))=x.wt.find? fun q=>decide (q.1=j))
  (h2:jL S i=none->wt'.find? (fun q=>decide (q.1=i))=some (i,(xF S i).asks)/\∃m,S.who (xF S i).asks=some m/\(m∈x.ov.map Prod.fst\/m∈W++[i])) (h3:∀q∈wt',q.1∈x.ov.map Prod.fst\/q.1∈W++[i]) (h4:∀j,KC S i j->j∈x.ov.map Prod.fst++(W++[i])):KN S n W ⟨x.ov++[(i,kS S i)],wt'⟩:=by
 obtain⟨hi,hx⟩:=h.wn i (by simp)
 have hnd:=h.wnd
 rw[List.nodup_append]at hnd
 have hmv:∀m,(m∈x.ov.map Prod.fst\/m∈W++[i])->m∈(x.ov++[(i,kS S i)]).map Prod.fst\/m∈W:=fun m hm=>by
  grind
 exact {
  fin:=fun p hp=>by
   rcases List.mem_append.1 hp with hp|hp
   ·exact h.fin p hp
   simp_all
  nd:=by
   rw[List.map_append,List.nodup_append]
   exact⟨h.nd,by simp,fun a ha b hb e=>hx (by simp_all)⟩
  st:=fun p hp hl=>by
   rcases List.mem_append.1 hp with hp|hp
   ·obtain⟨g1,m,g2,g3⟩:=h.st p hp hl
    have hne:p.1≠i:=fun e=>hx (e▸List.mem_map.2 ⟨p,hp,rfl⟩)
    simp_all
   grind
  wnd:=hnd.1
  wn:=fun w hw=>by
   obtain⟨g1,g2⟩:=h.wn w (List.mem_append_left _ hw)
   simp_all
  wt:=fun q hq=>hmv q.1 (h3 q hq)
  cl:=fun p hp j hj=>by
   rcases List.mem_append.1 hp with hp|hp
   ·exact hmv j (h.cl p hp j hj)
   simp_all }
theorem KN.room {S:wB} {n:Nat} {W:List Nat} {x:BdV} {i:Nat} (h:KN S n W x) (hi:i<n) (hW:i∉W):W.length<n:=by
 have h1:(W++[i]).Nodup:=by
  rw[List.nodup_append]
  exact⟨h.wnd,by simp,fun a ha b hb=>by grind⟩
 have h2:=List.Nodup.length_le_of_subset (l₂:=List.range n) h1 fun w hw=>by
  rcases List.mem_append.1 hw with hw|hw
  ·exact List.mem_range.2 (h.wn w hw).1
  simp_all
 grind
end Go.Proofs.YtdkieabmeiojjaaGreatDoor
end
section
set_option maxRecDepth 100000
namespace Go.Proofs.YtdkieabmeiojjaaGreatDoor
open Go Go.Ab
open Classical
variable [Sel] [SelPow] [SelMax]
def OvD (r:qG):Prop:=r.over.data.length<=65536
theorem OvD.fail (e:Int) (r:qG):OvD (w6 e r):=by simp[OvD,w6]
section
variable {r:qG} (h:OvD r)
include h
theorem OvD.add (s:Txt):OvD (y6 s r):=by
 unfold y6
 split
 ·exact .fail _ _
 ·exact h
theorem OvD.th:∀t d,OvD (thR t d r)
 | .add,d=>h.add d
 | .scan _,_=>h
theorem OvD.co:∀k x,OvD (coR k x r)
 | .there t,x=>by
  rw[coR]
  split
  ·exact h.th _ _
  ·exact .fail _ _
 | .tr,x=>by
  rw[coR]
  split
  ·exact h.add _
  ·exact h
theorem OvD.ask (p:Txt) (k:CoV):OvD (yN p k r):=by
 unfold yN
 split
 ·exact h.co _ _
 split
 ·exact .fail _ _
 ·exact h
theorem OvD.scan (p w:Txt) (l:List Txt):OvD (ZD p w { r with seen:=l }):=OvD.ask (r:={ r with seen:=l++[p] }) h _ _
theorem OvD.set (l:List Txt):OvD (kH l r):=OvD.add (r:={ r with buf:=[] }) h _
theorem OvD.turn (a b:Txt):OvD (kX a b r):=by
 unfold kX
 split
 ·exact h.set _
 split
 ·exact h.set _
 split
 ·exact h
 split
 ·exact h
 split
 ·exact h.set _
 ·exact h
theorem OvD.td (hb:r.buf.length<=65536):∀t,OvD (tdR t r)
 | .cmd c=>by
  show OvD (doR c r)
  unfold doR
  simp only
  split
  ·exact h.ask _ _
  split
  ·exact h.ask _ _
  split
  ·exact h.scan _ _ _
  split
  ·exact h.add _
  split
  ·split
   ·exact h.add _
   ·exact .fail _ _
  split
  ·exact hb
  split
  ·split
   ·exact h
   ·exact .fail _ _
  split
  ·exact .fail _ _
  ·exact h.turn _ _
 | .ans k p=>h.co _ _
 | .line s w=>by
  show OvD (QP s w r)
  unfold QP
  split
  ·split
   ·exact h.add _
   split
   ·exact h
   ·exact h.scan _ _ r.seen
  ·exact h.add _
theorem OvD.step (hb:r.buf.length<=65536):OvD (yX r):=by
 unfold yX
 split
 ·simp[OvD]
 ·exact OvD.td (r:={ r with todo:=r.todo.dropLast }) h hb _
end
theorem OvD.runN:∀(n:Nat) {r r':qG},runN n r=some r'->kK r->OvD r->OvD r'
 | 0,_,_,h,_,_=>by cases h
 | n+1,r,r',h,hg,ho=>by
  rw[Go.Proofs.YtdkieabmeiojjaaGreatDoor.runN]at h
  by_cases hs:kE r=true
  ·rw[if_pos hs]at h;cases h;exact ho
  ·rw[if_neg hs]at h
   exact OvD.runN n h (hg.step (by simpa using hs)) (ho.step hg.inv.s.2.2.1)
theorem OvD.settle {r:qG} (h:OvD r) (hg:kK r):OvD (k9 r):=.runN _ (y9 hg.inv).1 hg h
structure XK (b:zJ):Prop where
 ov:OvD b.run
 wr:∀w∈b.wrote,w.2.length<=65536
 asks:b.asks.length<=1040
 rd:∀r∈b.reads,r.path.length<=1040
theorem XK.round {b:zJ} (h:XK b) (hg:QE b):XK (roundB b).1:=by
 have h1:OvD (kN b.run).2/\(kN b.run).1.data.length<=65536:=by
  have:=h.ov.settle hg.good
  unfold kN
  simp only
  split
  ·exact⟨this,by simp⟩
  ·refine⟨?_,this⟩
   split
   ·simp[OvD,do0]
   ·exact this
 have h0:=hg.round.2
 have h3:(roundB b).1.reads=b.reads/\(roundB b).1.asks.length<=1040:=by
  unfold roundB KI y8
  simp only
  split
  ·rename_i hk
   split
   ·exact⟨rfl,h0 hk⟩
   ·exact⟨rfl,h.asks⟩
  split
  ·split<;>exact⟨rfl,h.asks⟩
  split
  ·split<;>exact⟨rfl,h.asks⟩
  ·exact⟨rfl,h.asks⟩
 have h2:(roundB b).1.run=(kN b.run).2/\((roundB b).1.wrote=b.wrote\/(roundB b).1.wrote=b.wrote++[((kN b.run).1.path,(kN b.run).1.data)]):=by
  unfold roundB KI y8
  simp only
  split
  ·split<;>exact⟨rfl,.inl rfl⟩
  split
  ·split
   ·exact⟨rfl,.inl rfl⟩
   ·exact⟨rfl,.inr rfl⟩
  split
  ·split<;>exact⟨rfl,.inl rfl⟩
  ·exact⟨rfl,.inl rfl⟩
 refine⟨by rw[h2.1];exact h1.1,fun w hw=>?_,h3.2,by rw[h3.1];exact h.rd⟩
 rcases h2.2 with e|e<;>rw[e]at hw
 ·exact h.wr w hw
 ·rcases List.mem_append.1 hw with hw|hw
  ·exact h.wr w hw
  ·rw[List.mem_singleton.1 hw];exact h1.2
theorem XK.goN:∀(n:Nat) {b b':zJ},goN n b=some b'->QE b->XK b->XK b'
 | 0,b,b',h,_,_=>by cases h
 | n+1,b,b',h,hg,hd=>by
  rw[Go.Proofs.YtdkieabmeiojjaaGreatDoor.goN]at h
  by_cases ho:b.over=true
  ·rw[if_pos ho]at h;cases h;exact hd
  rw[if_neg ho]at h
  by_cases h2:(roundB b).2=true
  ·rw[if_pos h2]at h;cases h;exact hd.round hg
  ·rw[if_neg h2]at h
   exact XK.goN n h hg.roundB (hd.round hg)
theorem XK.goOn {b:zJ} (hg:QE b) (h:XK b):XK (QX b):=by
 unfold QX
 cases e:Go.Proofs.YtdkieabmeiojjaaGreatDoor.goN (ccR b.run+2) b with
 | none=>exact h
 | some b'=>exact XK.goN _ e hg h
theorem XK.give {b:zJ} (h:XK b) (hg:QE b) {k:KnV} (hk:b.over=false->k.path=b.asks->QE (za5 k b)):XK (y4 k b).2:=by
 unfold y4
 split
 ·exact h
 rename_i g1
 split
 ·exact h
 rename_i g2
 split
 ·exact h
 rename_i g3
 have g2:k.path=b.asks:=by simpa using g2
 refine XK.goOn (hk (by simpa using g1) g2) ⟨?_,h.wr,h.asks,fun r hr=>?_⟩
 ·have:=h.ov.settle hg.good
  unfold Z2
  simp only
  split
  ·exact this
  split
  ·exact this
  exact this
 ·rcases List.mem_append.1 hr with hr|hr
  ·exact h.rd r hr
  ·rw[List.mem_singleton.1 hr]
   show k.path.length<=1040
   rw[g2];exact h.asks
theorem zdk {f:Txt->Option KnV} (hf:Ans f):∀(n:Nat) {b b':zJ},goF f n b=some b'->(∀r∈b.reads,∃k,f r.path=some k/\QW k=r)->∀r∈b'.reads,∃k,f r.path=some k/\QW k=r
 | 0,_,_,h,_=>by cases h
 | n+1,b,b',h,hp=>by
  rw[goF]at h
  by_cases ho:b.over=true
  ·rw[if_pos ho]at h;cases h;exact hp
  rw[if_neg ho]at h
  have ho':b.over=false:=by simpa using ho
  cases hk:f b.asks with
  | none=>rw[hk]at h;cases h;exact hp
  | some k =>
   rw[hk]at h
   obtain⟨h1,h2⟩:=hf _ _ hk
   refine zdk hf n h fun r hr=>?_
   rw[zdX ho' h1 h2]at hr
   rcases List.mem_append.1 hr with hr|hr
   ·exact hp r hr
   ·rw[List.mem_singleton.1 hr]
    exact⟨k,by rw[show (QW k).path=b.asks from h1];exact hk,rfl⟩
theorem zgY {env:List (Txt × Txt)} {cs:List CmdV} {outs:List Txt} {may:Txt->Bool} {f:Txt->Option KnV} (hf:Ans f):∀(n:Nat) {kn:List KnV} {b b':zJ},WN env cs outs may kn b->XK b->goF f n b=some b'->XK b'
 | 0,_,_,_,_,_,h=>by cases h
 | n+1,kn,b,b',hk,hd,h=>by
  rw[goF]at h
  by_cases ho:b.over=true
  ·rw[if_pos ho]at h;cases h;exact hd
  rw[if_neg ho]at h
  have ho':b.over=false:=by simpa using ho
  cases hfk:f b.asks with
  | none=>rw[hfk]at h;cases h;exact hd
  | some k =>
   rw[hfk]at h
   simp only at h
   obtain⟨hk1,hk2⟩:=hf _ _ hfk
   exact zgY hf n (hk.give k ho' hk1 (fun _=>hk2)).2 (hd.give hk.g fun h3 h2=>(hk.can k h3 h2 (fun _=>hk2)).good) h
theorem zhU {a:QT} (ha:zm2 a) (hw:∀p∈a.outs,p.length<=2000000) {cs:List CmdV} (hcs:zL a.tool=.ok cs) {f:Txt->Option KnV} (hf:Ans f) {b:zJ} (h:goF f 600 (X3 a.env a.outs (QS a) cs)=some b) (g2:b.over=true) :
  (∀r∈(ZH b).1.reads,∃k,f r.path=some k/\QW k=r)/\(ZH b).1.reads.length<=500/\(∀r∈(ZH b).1.reads,r.path.length<=1040)/\
  (ZH b).1.outs.length<=2000000/\∀f∈(ZH b).1.outs,f.path.length<=2000000/\f.data.length<=65536:=by
 have g3:=dV hcs (env:=a.env) (by have:=ha.be;omega) ha.bev a.outs (QS a)
 obtain⟨kn',hk⟩:=znp hf 600 g3 h
 have hd:=zgY hf 600 g3 (XK.goOn (p6 hcs (by have:=ha.be;omega) ha.bev _ _) ⟨by simp[OvD,GX,do0],by simp[GX],by simp[GX],by simp[GX]⟩) h
 have hn0:(X3 a.env a.outs (QS a) cs).reads=[]:=by
  obtain⟨m,h⟩:=zfq a.env a.outs (QS a) cs (Q8 hcs)
  exact h.reads
 have ht:=zdk hf 600 h (by rw[hn0];simp)
 simp only[zfo g2]
 obtain⟨wr,hs⟩:=hk.s
 refine⟨ht,hk.rl,hd.rd,?_,fun f hf=>?_⟩
 ·have:=hk.wl ha.bo
  unfold ZH
  split
  ·simp
  split
  ·simp only[JA,List.length_map,Q9];omega
  ·simp
 ·have hf':f∈JA b:=by
   unfold ZH at hf
   rw[if_neg (by rw[g2];decide)]at hf
   split at hf
   ·exact hf
   ·cases hf
  obtain⟨p,hp,rfl⟩:=List.mem_map.1 hf'
  have hp:=(ZO _).mem_iff.1 hp
  refine⟨hw _ ?_,?_⟩
  ·rw[hs.wrote]at hp
   simp only[List.map_map,List.mem_map]at hp
   obtain⟨w,h1,rfl⟩:=hp
   exact hs.own w h1
  ·show ((b.wrote.find? fun x=>decide (x.1=p)).getD ([],[])).2.length<=_
   cases e:b.wrote.find? (fun x=>decide (x.1=p))with
   | none=>simp
   | some x=>exact hd.wr _ (List.mem_of_find?_eq_some e)
end Go.Proofs.YtdkieabmeiojjaaGreatDoor
end
section
set_option maxRecDepth 100000
namespace Go.Proofs.YtdkieabmeiojjaaGreatDoor
open Go Go.Ab
open Classical
variable [Sel] [SelPow] [SelMax]
theorem zkW (b:Nat) (p:Txt) (x:jK):q7 Tryz.prog 90 [.av zlN (zK x),.av .ptr (.ptr b .str [])] [(b,qS p)] fun r H'=>r=.av .bool (.b (decide (x.path=p)))/\H'=[(b,qS p)]:=by
 refine zov Tryz.func90 cf0 fun imm0 w0=>?_
 simp (disch:=omega) [zz,qS,zK]
 simp (disch:=omega) [zz,Tryz.f90]
abbrev zqf:Cfg:=⟨fun n=>n==3,fun _=>false⟩
theorem zgQ (fs:List jK) (hn:fs.length<=1000000000) (p:Txt):PC Tryz.prog 56 [.av (.slice 43) (qL fs),.av .str (.s p)] (.tup [(.str,.s (JI fs p).data),(.bool,.b (JI fs p).is)]):=by
 have hef:=j6 fs
 refine q7.sub (R:=fun r H'=>r=.tup [(.str,.s (JI fs p).data),(.bool,.b (JI fs p).is)]) ?_ (fun r H' hr _=>⟨[],HSub.of_sub (List.nil_sublist _),hr,rfl⟩)
 refine zov Tryz.func56 zqf fun imm0 w0=>?_
 simp (disch:=omega) [zz]
 intro b
 have hf:zki (.fn 90 [.ptr b .str []]) [(b,qS p)] (fun x=>decide (x.path=p)) fs:=⟨rfl,rfl,fun x hx=>⟨_,rfl,by simp,by simpa[TV.er,AV.er]using zkW b p x⟩⟩
 refine qD (R:=fun r' H'=>r'=.av (.int .i64) (.i .i64 (QJ (fun x:jK=>decide (x.path=p)) fs))/\H'=[(b,qS p)]) [(b,qS p)] [] (by simp[qS]) rfl (by simp[qE]) (by simp) ?_ ?_
 ·have:=zms _ _ _ fs hf hn
  simpa[TV.er,AV.er,hef,q8.er_cons,qS,HObj.er_var,AV.erk]using this
 rintro r' H' ⟨rfl,rfl⟩ _
 refine⟨_,HSub.refl _,?_⟩
 rcases CE (fun x:jK=>decide (x.path=p)) fs with⟨he,hf⟩|⟨i,hi,he,hf⟩
 ·have ht:JI fs p=⟨p,false,[]⟩:=by unfold JI;rw[hf]
  rw[he,ht]
  simp (disch:=omega) [zz,Tryz.f56]
 ·have ht:JI fs p=⟨p,true,fs[i].data⟩:=by unfold JI;rw[hf]
  have hg:=kG zK fs i hi
  have hi':(i:Int)<fs.length:=by omega
  have hi0:¬(i:Int)<0:=by omega
  rw[he,ht]
  simp (disch:=omega) [zz,hi',hi0,qL,hg,zK,Tryz.f56]
def znO (f:AV) (Hs:q8) (g:QT->Bool) (ts:List QT):Prop:=Hs.er=Hs/\f.er=f/\∀x∈ts,VC1 f [.av zl3 (wW x)] Hs fun r H'=>r=.av .bool (.b (g x))/\H'=Hs
def jP (l:List QT):AV:=.sl .no (l.map wW)
theorem ZT (l:List QT):(jP l).er=jP l:=by simp[jP,AV.er,AV.ers_eq,Function.comp_def]
theorem zmW (g:QT->Bool) (f:AV) (Hs:q8) (ts:List QT) (hf:znO f Hs g ts) (hn:ts.length<=1000000000) :
  q7 Tryz.prog 57 [.av (.slice 49) (jP ts),.av .func f] Hs
   fun r H'=>r=.av (.int .i64) (.i .i64 (QJ g ts))/\H'=Hs:=by
 obtain⟨ho,hfe,hff⟩:=hf
 refine zov Tryz.func57 cf0 fun imm0 w0=>?_
 simp (disch:=omega) [zz,jP]
 refine AT.loop' (α:=Nat) (fun k=>St.of [(0,.av (.slice 49) (.sl .no (ts.map wW))),(1,.av .func f),(7,.av (.int .i64) (.i .i64 ts.length)),(8,.av (.int .i64) (.i .i64 k))] [] (fun _=>0) Hs)
  (fun k=>k<=ts.length/\∀x∈ts.take k,g x=false) (fun k=>ts.length-k) 0 ?_ ?_ ?_
 ·apply Le.of<;>simp[zR,qI]
 ·simp
 rintro k ⟨hk',hpk⟩ KL hN hE
 refine zrd cf0 ?_
 by_cases hlt:k<ts.length
 ·have hlt':(k:Int)<ts.length:=by omega
  have hg:=kG wW ts k hlt
  simp (disch:=omega) [zz,hlt',hg]
  refine Q6 (R:=fun r' H'=>r'=.av .bool (.b (g ts[k]))/\H'=Hs) Hs [] (by simp) ho (by simp[qE]) (hff _ (List.getElem_mem hlt)) ?_
  rintro r' H' ⟨rfl,rfl⟩ _
  refine⟨H',by simpa using HSub.refl _,?_⟩
  by_cases hp:g ts[k]=true
  ·simp (disch:=omega) [zz,hp]
   refine hE _ _ (by simp) ?_
   simp (disch:=omega) [zz,Tryz.f57,JR hlt hpk hp,ho]
  ·simp (disch:=omega) [zz,hp]
   refine hN _ (k+1) ?_ ⟨by omega,by rw[yC hlt];exact⟨hpk,by simpa using hp⟩⟩ (by omega)
   apply Le.of<;>simp[zR,qI]
 ·have hlt':¬(k:Int)<ts.length:=by omega
  simp (disch:=omega) [zz,hlt']
  refine hE _ _ (by simp) ?_
  rw[List.take_of_length_le (by omega)]at hpk
  simp (disch:=omega) [zz,Tryz.f57,ZP hpk,ho]
theorem zox (b:Nat) (p:Txt) (x:QT) (hx:x.outs.length<=2000000):q7 Tryz.prog 58 [.av zl3 (wW x),.av .ptr (.ptr b .str [])] [(b,qS p)] fun r H'=>r=.av .bool (.b (decide (p∈x.outs)))/\H'=[(b,qS p)]:=by
 have hc:=ZC x.outs p (by omega)
 refine zov Tryz.func58 cf0 fun imm0 w0=>?_
 simp (disch:=omega) [zz,qS,wW]
 refine qO hc rfl rfl (by simp) (by simp[qR,TV.er,AV.er,AV.ers_eq,strs,Function.comp_def]) ?_
 simp (disch:=omega) [zz,Tryz.f58]
def wJ (l:List QT) (p:Txt):Option Nat:=l.findIdx? fun a=>decide (p∈a.outs)
abbrev zpg:Cfg:=⟨fun n=>n==3,fun _=>false⟩
theorem zdw (l:List QT) (hl:l.length<=2000000) (ho:∀a∈l,a.outs.length<=2000000) (p:Txt):PC Tryz.prog 37 [.av (.slice 49) (jP l),.av .str (.s p)] (.tup [(.int .i64,.i .i64 ((wJ l p).getD 0:Nat)),(.bool,.b (wJ l p).isSome)]):=by
 have hef:=ZT l
 refine q7.sub (R:=fun r H'=>r=.tup [(.int .i64,.i .i64 ((wJ l p).getD 0:Nat)),(.bool,.b (wJ l p).isSome)]) ?_ (fun r H' hr _=>⟨[],HSub.of_sub (List.nil_sublist _),hr,rfl⟩)
 refine zov Tryz.func37 zpg fun imm0 w0=>?_
 simp (disch:=omega) [zz]
 intro b
 have hf:znO (.fn 58 [.ptr b .str []]) [(b,qS p)] (fun x=>decide (p∈x.outs)) l:=⟨rfl,rfl,fun x hx=>⟨_,rfl,by simp,by simpa[TV.er,AV.er]using zox b p x (ho x hx)⟩⟩
 refine qD (R:=fun r' H'=>r'=.av (.int .i64) (.i .i64 (QJ (fun x:QT=>decide (p∈x.outs)) l))/\H'=[(b,qS p)]) [(b,qS p)] [] (by simp[qS]) rfl (by simp[qE]) (by simp) ?_ ?_
 ·have:=zmW _ _ _ l hf (by omega)
  simpa[TV.er,AV.er,hef,q8.er_cons,qS,HObj.er_var,AV.erk]using this
 rintro r' H' ⟨rfl,rfl⟩ _
 refine⟨_,HSub.refl _,?_⟩
 have hix:QJ (fun x:QT=>decide (p∈x.outs)) l=match wJ l p with|some i=>(i:Int)|none=>-1:=rfl
 rw[hix]
 cases hm:wJ l p with
 | none=>simp (disch:=omega) [zz,Tryz.f37]
 | some i =>
  have h0:(0:Int)<=i:=by omega
  have hmx:max (i:Int) 0=i:=by omega
  simp (disch:=omega) [zz,h0,hmx,Tryz.f37]
  omega
theorem zk1 (k:KnV) (hk:k.data.length<=1000000000000):PC Tryz.prog 52 [.av KnT (jD k)] (.av (q9 Tryz.prog 97) (qX (QW k))):=by
 have hs:=zlD k.data hk
 refine zow Tryz.func52 cf0 fun imm0 w0=>?_
 by_cases h:k.is=true
 ·simp (disch:=omega) [zz,jD,h]
  (repeat with_reducible refine om ?_)
  refine kP hs rfl rfl (by simp) (by simp[qR,coC,TV.er,AV.er,AV.ers,zeQ]) ?_
  simp (disch:=omega) [zz]
  (repeat with_reducible refine om ?_)
  simp (disch:=omega) [zz,Tryz.f52,qX,QW,h]
 ·have h':k.is=false:=by simpa using h
  simp (disch:=omega) [zz,jD,h',Tryz.f52,qX,QW]
  rfl
def flW:List jK->Nat
 | []=>0
 | x::l=>x.path.length+x.data.length+1+flW l
theorem zrR:∀l:List jK,l.length<=flW l
 | []=>by simp[flW]
 | x::l=>by have:=zrR l;simp only[List.length_cons,flW];omega
theorem zsk {l:List jK} {x:jK} (h:x∈l):x.path.length+x.data.length+1<=flW l:=by
 induction l with
 | nil=>cases h
 | cons y r ih =>
  simp only[flW]
  rcases List.mem_cons.1 h with rfl|h
  ·omega
  ·have:=ih h;omega
end Go.Proofs.YtdkieabmeiojjaaGreatDoor
end
section
set_option maxRecDepth 100000
namespace Go.Proofs.YtdkieabmeiojjaaGreatDoor
open Go Go.Ab
open Classical
variable [Sel]
theorem zrc (p:List (List UInt8)) (k:Nat) (h:k<p.length):(strs p)[k]?=some (.s p[k]):=by simp[strs,List.getElem?_eq_getElem h]
theorem zqQ (l:List UInt8) (hl:l.length<=1000000000):PC Tryz.prog 21 [.av .str (.s l)] (.av .bool (.b (w5 l))):=by
 refine zow Tryz.func21 cf0 fun imm0 w0=>?_
 simp (disch:=omega) [zz]
 refine zcv (zre l hl) ?_
 simp (disch:=omega) [zz]
 have hle:=U0 47 l
 obtain⟨p,hp⟩:∃p,p=qK 47 l:=⟨_,rfl⟩
 have hlen:∀x∈p,x.length<=l.length:=fun x hx=>QN 47 l x (by rw[<-hp];exact hx)
 rw[<-hp]at hle |-
 refine AT.loop' (α:=Nat) (fun k=>St.of [(3,.av (.slice 9) (.sl .no (strs p))),(4,.av (.int .i64) (.i .i64 k))] [] (fun _=>0) []) (fun k=>k<=p.length/\∀x∈p.take k,XC x=true) (fun k=>p.length-k) 0 ?_ ?_ ?_
 ·apply Le.of<;>simp[le9,z6]<;>try omega
 ·simp
 rintro k ⟨hk,hall⟩ KL hN hE
 refine zrd cf0 ?_
 by_cases hlt:k<p.length
 ·have hlt':(k:Int)<p.length:=by omega
  have hx:=hlen p[k] (List.getElem_mem _)
  have hg:=zrc p k hlt
  simp (disch:=omega) [zz,hlt',hg]
  refine zcv (zs4 p[k] (by omega)) ?_
  cases hpv:XC p[k]
  ·simp (disch:=omega) [zz]
   refine hE _ _ (by simp) ?_
   have:w5 l=false:=by
    simp only[w5,Bool.and_eq_false_iff]
    right
    rw[List.all_eq_false]
    exact⟨p[k],by rw[<-hp];exact List.getElem_mem _,by simp[hpv]⟩
   simp (disch:=omega) [zz,Tryz.f21,this]
  ·simp (disch:=omega) [zz]
   refine hN _ (k+1) ?_ ⟨by omega,by rw[yC hlt];exact⟨hall,hpv⟩⟩ (by omega)
   apply Le.of<;>simp[le9,z6]<;>try omega
 ·have hlt':¬(k:Int)<p.length:=by omega
  simp (disch:=omega) [zz,hlt']
  refine hE _ _ (by simp) ?_
  rw[List.take_of_length_le (by omega)]at hall
  have hal:p.all XC=true:=by simpa using hall
  simp (disch:=omega) [zz,Tryz.f21,w5,<-hp,hal]
  omega
theorem zrA (p:List (List UInt8)) (k:Nat):(zqO (p.take k)).length<=(zqO p).length:=by
 by_cases h1:p.take k=[]
 ·rw[h1];simp[zqO]
 by_cases h2:p.drop k=[]
 ·have:=List.take_append_drop k p
  rw[h2,List.append_nil]at this
  rw[this];exact Nat.le_refl _
 ·have:=zr2 _ _ h1 h2
  rw[List.take_append_drop]at this
  rw[this];simp
theorem ztd (l:List UInt8) (hl:l.length<=1000000000):PC Tryz.prog 61 [.av .str (.s l)] (.av .str (.s (zqY l))):=by
 refine zow Tryz.func61 cf0 fun imm0 w0=>?_
 simp (disch:=omega) [zz]
 refine zcv (zre l hl) ?_
 simp (disch:=omega) [zz]
 refine zcv (zqQ l hl) ?_
 have hle:=U0 47 l
 have hne:=xG 47 l
 obtain⟨p,hp⟩:∃p,p=qK 47 l:=⟨_,rfl⟩
 have hlen:∀x∈p,x.length<=l.length:=fun x hx=>QN 47 l x (by rw[<-hp];exact hx)
 have hjl:zqO p=l:=by rw[hp];exact zqT l
 have hjt:=fun k=>zrA p k
 rw[hjl]at hjt
 have hd:zqY l=if w5 l=true/\p.length≠1 then zqO p.dropLast else []:=by rw[hp];rfl
 rw[<-hp]at hle hne |-
 have hpos:0<p.length:=List.length_pos_iff.2 hne
 cases hm:w5 l
 ·simp (disch:=omega) [zz,Tryz.f61,hd,hm]
 by_cases h1:p.length=1
 ·simp (disch:=omega) [zz,h1,Tryz.f61,hd,hm]
 have h1':¬(p.length:Int)=1:=by omega
 have hg0:=zrc p 0 hpos
 simp (disch:=omega) [zz,h1',hg0]
 refine⟨hpos,?_⟩
 refine AT.loop' (α:=Nat) (fun k=>St.of [(3,.av (.slice 9) (.sl .no (strs p))),(4,.av .str (.s (zqO (p.take k)))),(5,.av (.int .i64) (.i .i64 k))] [] (fun _=>0) []) (fun k=>1<=k/\k+1<=p.length) (fun k=>p.length-k) 1 ?_ ?_ ?_
 ·have e:zqO (p.take 1)=p[0]:=by
   cases p with
   | nil=>exact absurd rfl hne
   | cons x r=>simp[zqO]
  apply Le.of<;>simp[le9,z6,e]<;>try omega
 ·omega
 rintro k ⟨hk1,hk2⟩ KL hN hE
 refine zrd cf0 ?_
 by_cases hlt:k+1<p.length
 ·have hlt':(k:Int)<(p.length:Int)-1:=by omega
  have hx:=hlen p[k] (List.getElem_mem _)
  have hg:=zrc p k (by omega)
  have hj:=hjt k
  have hsn:zqO (p.take (k+1))=zqO (p.take k)++47::p[k]:=by
   rw[List.take_succ_eq_append_getElem (by omega),zr2 _ _ (by
    intro h
    rcases List.take_eq_nil_iff.1 h with h|h
    ·omega
    ·exact hne h) (by simp)]
   rfl
  simp (disch:=omega) [zz,hlt',hg]
  (repeat with_reducible refine om ?_)
  refine hN _ (k+1) ?_ ⟨by omega,by omega⟩ (by omega)
  apply Le.of<;>simp[le9,z6,hsn]<;>try omega
 ·have hlt':¬(k:Int)<(p.length:Int)-1:=by omega
  simp (disch:=omega) [zz,hlt']
  refine hE _ _ (by simp) ?_
  have e:p.take k=p.dropLast:=by rw[List.dropLast_eq_take];congr 1;omega
  simp (disch:=omega) [zz,Tryz.f61,hd,hm,h1,e]
theorem zrf (d:List UInt8) (hdl:d.length<=1000000000):∀(n:Nat) (l:List UInt8),l.length<=n->l.length<=1000000000->PC Tryz.prog 42 [.av .str (.s l),.av .str (.s d)] (.av .bool (.b (Z8 l d)))
 | 0,l,hn,hl=>by
  obtain rfl:l=[]:=List.eq_nil_of_length_eq_zero (by omega)
  refine zow Tryz.func42 cf0 fun imm0 w0=>?_
  simp (disch:=omega) [zz]
  refine qO (zqQ [] (by simp)) rfl rfl (by simp) (by simp[qR,TV.er,AV.er,coC]) ?_
  have hm:w5 []=false:=by decide
  simp (disch:=omega) [zz,Tryz.f42,Z8,hm]
 | n+1,l,hn,hl=>by
  refine zow Tryz.func42 cf0 fun imm0 w0=>?_
  simp (disch:=omega) [zz]
  refine qO (zqQ l hl) rfl rfl (by simp) (by simp[qR,TV.er,AV.er,coC]) ?_
  cases hm:w5 l
  ·simp (disch:=omega) [zz,Tryz.f42,Z8,hm]
  by_cases hd:d=[]
  ·simp (disch:=omega) [zz,Tryz.f42,Z8,hm,hd]
  simp (disch:=omega) [zz,hd]
  refine qO (ztd l hl) rfl rfl (by simp) (by simp[qR,TV.er,AV.er,coC]) ?_
  have hst:=zs1 hm hd
  have hlt:=zt2 (l:=l)
  generalize hu:zqY l=u at *
  by_cases h1:u=[]
  ·simp (disch:=omega) [zz,Tryz.f42,hst,h1]
  by_cases h2:u=d
  ·simp (disch:=omega) [zz,Tryz.f42,hst,h1,h2,hd]
  have hlu:=hlt h1
  simp (disch:=omega) [zz,h1,h2]
  refine qO (zrf d hdl n u (by omega) (by omega)) rfl rfl (by simp) (by simp[qR,TV.er,AV.er,coC]) ?_
  simp (disch:=omega) [zz,Tryz.f42,hst,h1,h2]
end Go.Proofs.YtdkieabmeiojjaaGreatDoor
end
