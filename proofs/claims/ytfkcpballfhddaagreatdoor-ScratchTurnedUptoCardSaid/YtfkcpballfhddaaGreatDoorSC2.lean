/- Two systems in which some ask for the same; plain. No condition. -/
import Derived.Test.YtfkcpballfhddaaGreatDoorBE1aToSC1
set_option linter.unusedSimpArgs false
set_option linter.unusedVariables false
set_option linter.unusedSectionVars false
set_option maxRecDepth 100000
namespace Go.Proofs.YtfkcpballfhddaaGreatDoor
open Go Go.Ab
open Classical
variable [Sel] [SelPow] [SelMax]
structure YK (S S':kV) (σ:Nat->Nat) (P:Nat->Prop):Prop where
 b:∀i,P i->S'.b0 (σ i)=S.b0 i
 w:∀i p,P i->zeQ S i p->S'.who p=(S.who p).map σ/\(∀j,S.who p=some j->P j)/\(S.who p=none->ZK S'.fs p=ZK S.fs p)
theorem YK.ans {S S':kV} {σ:Nat->Nat} {P:Nat->Prop} (h:YK S S' σ P) {D D':Nat->Option yH} (hD:∀j,P j->D' (σ j)=D j) {i:Nat} (hi:P i) {p:Txt} (hp:zeQ S i p):kF S' D' p=kF S D p:=by
 obtain⟨h1,h2,h3⟩:=h.w i p hi hp
 unfold kF
 rw[h1]
 cases hm:S.who p with
 | none=>simp only[Option.map_none];rw[h3 hm]
 | some j=>simp only[Option.map_some];rw[hD j (h2 j hm)]
theorem YK.go {S S':kV} {σ:Nat->Nat} {P:Nat->Prop} (h:YK S S' σ P) {D D':Nat->Option yH} (hL:LeO D (jI S)) (hD:∀j,P j->D' (σ j)=D j) {i:Nat} (hi:P i) :
  ∀(n:Nat) {b:j9},kM (kF S (jI S)) (S.b0 i) b->goF (kF S' D') n b=goF (kF S D) n b
 | 0,_,_=>rfl
 | n+1,b,hr=>by
  rw[goF,goF]
  by_cases ho:b.over=true
  ·rw[if_pos ho,if_pos ho]
  ·rw[if_neg ho,if_neg ho]
   have ho':b.over=false:=by simpa using ho
   rw[h.ans hD hi ⟨b,hr,ho',rfl⟩]
   cases hk:kF S D b.asks with
   | none=>rfl
   | some k=>exact h.go hL hD hi n (hr.snoc ho' (J4 hL _ _ hk))
theorem YK.stp {S S':kV} {σ:Nat->Nat} {P:Nat->Prop} (h:YK S S' σ P) {D D':Nat->Option yH} (hL:LeO D (jI S)) (hD:∀j,P j->D' (σ j)=D j) {i:Nat} (hi:P i):xF S' D' (σ i)=xF S D i:=by
 unfold xF
 rw[h.b i hi,h.go hL hD hi 600 (.refl _)]
 cases hg:goF (kF S D) 600 (S.b0 i)with
 | none=>rfl
 | some b =>
  simp only
  by_cases ho:b.over=true
  ·rw[if_pos ho,if_pos ho]
  ·rw[if_neg ho,if_neg ho]
   have ha:zeQ S i b.asks:=⟨b,(KV 600 hg).mono (J4 hL),by simpa using ho,rfl⟩
   obtain⟨h1,h2,_⟩:=h.w i _ hi ha
   rw[h1]
   cases hm:S.who b.asks with
   | none=>rfl
   | some j=>simp only[Option.map_some];rw[hD j (h2 j hm)]
theorem YK.fu {S S':kV} {σ:Nat->Nat} {P:Nat->Prop} (h:YK S S' σ P):∀k i,P i->fuS S' k (σ i)=fuS S k i
 | 0,_,_=>rfl
 | k+1,i,hi=>h.stp (pE k) (fun j hj=>h.fu k j hj) hi
theorem YK.lim {S S':kV} {σ:Nat->Nat} {P:Nat->Prop} (h:YK S S' σ P) {i:Nat} (hi:P i):jI S' (σ i)=jI S i:=by
 cases h1:jI S i with
 | some o =>
  obtain⟨k,hk⟩:=QI.1 h1
  exact QI.2 ⟨k,by rw[h.fu k i hi];exact hk⟩
 | none =>
  cases h2:jI S' (σ i)with
  | none=>rfl
  | some o =>
   obtain⟨k,hk⟩:=QI.1 h2
   rw[h.fu k i hi]at hk
   rw[QI.2 ⟨k,hk⟩]at h1;cases h1
theorem YK.box {S S':kV} {σ:Nat->Nat} {P:Nat->Prop} (h:YK S S' σ P) {i:Nat} (hi:P i):JI S' (σ i)=JI S i:=by
 unfold JI
 rw[h.b i hi,h.go (D:=jI S) (fun _ _ h=>h) (fun j hj=>h.lim hj) hi 600 (.refl _)]
theorem YK.fin {S S':kV} {σ:Nat->Nat} {P:Nat->Prop} (h:YK S S' σ P) {i:Nat} (hi:P i):jH S' (σ i)=jH S i:=by
 unfold jH
 rw[h.lim hi,h.box hi]
theorem YK.reach {S S':kV} {σ:Nat->Nat} {P:Nat->Prop} (h:YK S S' σ P) {i:Nat} (hi:P i) {b c:j9} (hr:kM (kF S (jI S)) b c):kM (kF S (jI S)) (S.b0 i) b->kM (kF S' (jI S')) b c:=by
 induction hr with
 | refl=>exact fun _=>.refl _
 | @step b c k h1 h2 h3 ih =>
  intro h4
  exact .step h1 (by rw[h.ans (fun j hj=>h.lim hj) hi ⟨b,h4,h1,rfl⟩];exact h2) (ih (h4.snoc h1 h2))
theorem YK.ask {S S':kV} {σ:Nat->Nat} {P:Nat->Prop} (h:YK S S' σ P) {i:Nat} (hi:P i) {p:Txt} (hp:zeQ S i p):zeQ S' (σ i) p:=by
 obtain⟨b,h1,h2,h3⟩:=hp
 exact⟨b,by rw[h.b i hi];exact h.reach hi h1 (.refl _),h2,h3⟩
theorem YK.wait {S S':kV} {σ:Nat->Nat} {P:Nat->Prop} (h:YK S S' σ P) {i j:Nat} (hi:P i) (hw:JE S i j):JE S' (σ i) (σ j)/\P j:=by
 obtain⟨p,h1,h2⟩:=hw
 obtain⟨h3,h4,_⟩:=h.w i p hi h1
 exact⟨⟨p,h.ask hi h1,by rw[h3,h2];rfl⟩,h4 j h2⟩
theorem YK.tran {S S':kV} {σ:Nat->Nat} {P:Nat->Prop} (h:YK S S' σ P) {i j:Nat} (hi:P i) (hw:Relation.TransGen (JE S) i j):Relation.TransGen (JE S') (σ i) (σ j)/\P j:=by
 induction hw with
 | single h1=>exact⟨.single (h.wait hi h1).1,(h.wait hi h1).2⟩
 | tail _ h1 ih=>exact⟨.tail ih.1 (h.wait ih.2 h1).1,(h.wait ih.2 h1).2⟩
end Go.Proofs.YtfkcpballfhddaaGreatDoor
