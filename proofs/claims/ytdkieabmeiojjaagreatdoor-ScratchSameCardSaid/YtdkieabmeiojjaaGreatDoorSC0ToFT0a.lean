/- Actions that wait for one another: what comes of each, whoever asks; p. No condition. -/
import Derived.Test.YtdkieabmeiojjaaGreatDoorBE1aToFW0
set_option linter.unusedSimpArgs false
set_option linter.unusedVariables false
set_option linter.unusedSectionVars false
section
set_option maxRecDepth 100000
namespace Go.Proofs.YtdkieabmeiojjaaGreatDoor
open Go Go.Ab
open Classical
variable [Sel] [SelPow] [SelMax]
structure wB where
 b0:Nat->zJ
 who:Txt->Option Nat
 fs:List jK
def LeO (D D':Nat->Option wZ):Prop:=∀i o,D i=some o->D' i=some o
def LeK (f g:Txt->Option KnV):Prop:=∀p k,f p=some k->g p=some k
def kJ (S:wB) (D:Nat->Option wZ) (p:Txt):Option KnV:=match S.who p with
 | none=>some (JI S.fs p)
 | some j=>match D j with
  | none=>none
  | some o=>if o.kind=1 then some (JI o.outs p) else none
noncomputable def uK (S:wB) (D:Nat->Option wZ) (i:Nat):Option wZ:=match goF (kJ S D) 600 (S.b0 i)with
 | none=>none
 | some b=>if b.over=true then some (ZH b).1 else match S.who b.asks with
  | none=>none
  | some j=>match D j with
   | none=>none
   | some o=>if o.kind=2 then some ⟨2,16,[],b.reads⟩ else none
noncomputable def fuS (S:wB):Nat->Nat->Option wZ
 | 0=>fun _=>none
 | k+1=>uK S (fuS S k)
noncomputable def jL (S:wB) (i:Nat):Option wZ:=if h:∃o,∃k,fuS S k i=some o then some h.choose else none
theorem ZX {S:wB} {D D':Nat->Option wZ} (h:LeO D D'):LeK (kJ S D) (kJ S D'):=by
 intro p k hk
 unfold kJ at hk |-
 cases hm:S.who p with
 | none=>rw[hm]at hk;exact hk
 | some j =>
  rw[hm]at hk
  simp only at hk |-
  cases hd:D j with
  | none=>rw[hd]at hk;cases hk
  | some o =>
   rw[hd]at hk
   rw[h j o hd]
   exact hk
theorem d7 {f:Txt->Option KnV}:∀(n:Nat) {b b':zJ},goF f n b=some b'->b'.over=true\/f b'.asks=none
 | 0,_,_,h=>by cases h
 | n+1,b,b',h=>by
  rw[goF]at h
  by_cases ho:b.over=true
  ·rw[if_pos ho]at h;cases h;exact .inl ho
  rw[if_neg ho]at h
  cases hk:f b.asks with
  | none=>rw[hk]at h;cases h;exact .inr hk
  | some k=>rw[hk]at h;exact d7 n h
theorem XU {f g:Txt->Option KnV} (hfg:LeK f g):∀(n:Nat) {b b':zJ},goF f n b=some b'->(b'.over=true\/g b'.asks=none)->goF g n b=some b'
 | 0,_,_,h,_=>by cases h
 | n+1,b,b',h,he=>by
  rw[goF]at h |-
  by_cases ho:b.over=true
  ·rw[if_pos ho]at h |-;exact h
  rw[if_neg ho]at h |-
  cases hk:f b.asks with
  | none =>
   rw[hk]at h
   cases h
   rcases he with he|he
   ·exact absurd he ho
   ·rw[he]
  | some k =>
   rw[hk]at h
   rw[hfg _ _ hk]
   exact XU hfg n h he
theorem zbB {S:wB} {D D':Nat->Option wZ} (h:LeO D D'):LeO (uK S D) (uK S D'):=by
 intro i o ho
 unfold uK at ho |-
 cases hg:goF (kJ S D) 600 (S.b0 i)with
 | none=>rw[hg]at ho;cases ho
 | some b =>
  rw[hg]at ho
  simp only at ho
  by_cases hov:b.over=true
  ·rw[if_pos hov]at ho
   rw[XU (ZX h) 600 hg (.inl hov)]
   simp only
   rw[if_pos hov];exact ho
  ·rw[if_neg hov]at ho
   cases hm:S.who b.asks with
   | none=>rw[hm]at ho;cases ho
   | some j =>
    rw[hm]at ho
    simp only at ho
    cases hd:D j with
    | none=>rw[hd]at ho;cases ho
    | some x =>
     rw[hd]at ho
     simp only at ho
     by_cases hx:x.kind=2
     ·have hn:kJ S D' b.asks=none:=by
       unfold kJ;rw[hm];simp only;rw[h j x hd];simp only;rw[if_neg (by omega)]
      rw[XU (ZX h) 600 hg (.inr hn)]
      simp only
      rw[if_neg hov,hm]
      simp only
      rw[h j x hd]
      exact ho
     ·rw[if_neg hx]at ho;cases ho
theorem CM {S:wB}:∀k,LeO (fuS S k) (fuS S (k+1))
 | 0=>fun i o h=>by cases h
 | k+1=>zbB (CM k)
theorem p0 {S:wB} {k m:Nat} (h:k<=m):LeO (fuS S k) (fuS S m):=by
 induction m with
 | zero =>
      have:k=0:=by omega
      subst this;exact fun _ _ h=>h
 | succ m ih =>
  by_cases hk:k=m+1
  ·subst hk;exact fun _ _ h=>h
  ·exact fun i o ho=>CM m i o (ih (by omega) i o ho)
theorem ZF {S:wB} {i:Nat} {o:wZ}:jL S i=some o<->∃k,fuS S k i=some o:=by
 unfold jL
 constructor
 ·intro h
  split at h
  ·rename_i hx
   cases h
   exact hx.choose_spec
  ·cases h
 ·rintro⟨k,hk⟩
  have hx:∃o,∃k,fuS S k i=some o:=⟨o,k,hk⟩
  rw[dif_pos hx]
  obtain⟨m,hm⟩:=hx.choose_spec
  have h1:=p0 (Nat.le_max_left k m) i o hk
  have h2:=p0 (Nat.le_max_right k m) i _ hm
  rw[h1]at h2
  exact h2.symm
theorem gC {S:wB} (k:Nat):LeO (fuS S k) (jL S):=fun i o h=>ZF.2 ⟨k,h⟩
theorem zhc {S:wB}:∀(n:Nat) {b b':zJ},goF (kJ S (jL S)) n b=some b'->∃k,goF (kJ S (fuS S k)) n b=some b'
 | 0,_,_,h=>by cases h
 | n+1,b,b',h=>by
  have he:=d7 (n+1) h
  rw[goF]at h
  by_cases ho:b.over=true
  ·rw[if_pos ho]at h
   exact⟨0,by rw[goF,if_pos ho];exact h⟩
  rw[if_neg ho]at h
  cases hk:kJ S (jL S) b.asks with
  | none =>
   rw[hk]at h
   refine⟨0,?_⟩
   rw[goF,if_neg ho]
   cases hz:kJ S (fuS S 0) b.asks with
   | none=>exact h
   | some x=>rw[ZX (gC 0) _ _ hz]at hk;cases hk
  | some x =>
   rw[hk]at h
   obtain⟨k,hg⟩:=zhc n h
   obtain⟨m,hm⟩:∃m,kJ S (fuS S m) b.asks=some x:=by
    unfold kJ at hk |-
    cases hmk:S.who b.asks with
    | none=>rw[hmk]at hk;exact⟨0,hk⟩
    | some j =>
     rw[hmk]at hk
     simp only at hk
     cases hd:jL S j with
     | none=>rw[hd]at hk;cases hk
     | some o =>
      rw[hd]at hk
      obtain⟨m,hm⟩:=ZF.1 hd
      exact⟨m,by simp only;rw[hm];exact hk⟩
   refine⟨max k m,?_⟩
   rw[goF,if_neg ho,ZX (p0 (Nat.le_max_right k m)) _ _ hm]
   refine XU (ZX (p0 (Nat.le_max_left k m))) n hg ?_
   rcases he with he|he
   ·exact .inl he
   ·refine .inr ?_
    cases hz:kJ S (fuS S (max k m)) b'.asks with
    | none=>rfl
    | some y=>rw[ZX (gC _) _ _ hz]at he;cases he
theorem za0 {S:wB} (i:Nat):jL S i=uK S (jL S) i:=by
 cases h:jL S i with
 | some o =>
  obtain⟨k,hk⟩:=ZF.1 h
  exact(zbB (gC k) i o (CM k i o hk)).symm
 | none =>
  cases h2:uK S (jL S) i with
  | none=>rfl
  | some o =>
   exfalso
   have hx:∃k,uK S (fuS S k) i=some o:=by
    unfold uK at h2
    cases hg:goF (kJ S (jL S)) 600 (S.b0 i)with
    | none=>rw[hg]at h2;cases h2
    | some b =>
     rw[hg]at h2
     simp only at h2
     obtain⟨k,hk⟩:=zhc 600 hg
     by_cases hov:b.over=true
     ·rw[if_pos hov]at h2
      exact⟨k,by unfold uK;rw[hk];simp only;rw[if_pos hov];exact h2⟩
     ·rw[if_neg hov]at h2
      cases hm:S.who b.asks with
      | none=>rw[hm]at h2;cases h2
      | some j =>
       rw[hm]at h2
       simp only at h2
       cases hd:jL S j with
       | none=>rw[hd]at h2;cases h2
       | some x =>
        rw[hd]at h2
        simp only at h2
        obtain⟨m,hm2⟩:=ZF.1 hd
        by_cases hx:x.kind=2
        ·refine⟨max k m,?_⟩
         have h3:=p0 (Nat.le_max_right k m) j x hm2
         have hn:kJ S (fuS S (max k m)) b.asks=none:=by
          unfold kJ;rw[hm];simp only;rw[h3];simp only;rw[if_neg (by omega)]
         unfold uK
         rw[XU (ZX (p0 (Nat.le_max_left k m))) 600 hk (.inr hn)]
         simp only
         rw[if_neg hov,hm]
         simp only
         rw[h3]
         exact h2
        ·rw[if_neg hx]at h2;cases h2
   obtain⟨k,hk⟩:=hx
   have:fuS S (k+1) i=some o:=hk
   rw[ZF.2 ⟨k+1,this⟩]at h
   cases h
inductive kL (f:Txt->Option KnV):zJ->zJ->Prop
 | refl (b:zJ):kL f b b
 | step {b c:zJ} {k:KnV}:b.over=false->f b.asks=some k->kL f (y4 k b).2 c->kL f b c
theorem kL.snoc {f:Txt->Option KnV} {b c:zJ} {k:KnV} (h:kL f b c) (ho:c.over=false) (hk:f c.asks=some k):kL f b (y4 k c).2:=by
 induction h with
 | refl b=>exact .step ho hk (.refl _)
 | step h1 h2 _ ih=>exact .step h1 h2 (ih ho hk)
theorem UJ {f:Txt->Option KnV}:∀(n:Nat) {b b':zJ},goF f n b=some b'->kL f b b'
 | 0,_,_,h=>by cases h
 | n+1,b,b',h=>by
  rw[goF]at h
  by_cases ho:b.over=true
  ·rw[if_pos ho]at h;cases h;exact .refl _
  rw[if_neg ho]at h
  cases hk:f b.asks with
  | none=>rw[hk]at h;cases h;exact .refl _
  | some k=>rw[hk]at h;exact .step (by simpa using ho) hk (UJ n h)
theorem kL.two {f:Txt->Option KnV} {b x:zJ} (hx:kL f b x):∀ {y:zJ},kL f b y->kL f x y\/kL f y x:=by
 induction hx with
 | refl b=>exact fun h=>.inl h
 | step h1 h2 h3 ih =>
  intro y hy
  cases hy with
  | refl=>exact .inr (.step h1 h2 h3)
  | step g1 g2 g3 =>
   rw[h2]at g2
   cases g2
   exact ih g3
theorem kL.stop {f:Txt->Option KnV} {b c:zJ} (h:kL f b c) (he:b.over=true\/f b.asks=none):c=b:=by
 cases h with
 | refl=>rfl
 | step h1 h2 _ =>
  rcases he with he|he
  ·rw[h1]at he;cases he
  ·rw[h2]at he;cases he
theorem zic {f:Txt->Option KnV} {n:Nat} {b b' c:zJ} (hg:goF f n b=some b') (h:kL f b c) (he:c.over=true\/f c.asks=none):b'=c:=by
 rcases h.two (UJ n hg)with h1|h1
 ·exact h1.stop he
 ·exact(h1.stop (d7 n hg)).symm
def zoI (S:wB) (i:Nat) (p:Txt):Prop:=∃b,kL (kJ S (jL S)) (S.b0 i) b/\b.over=false/\b.asks=p
theorem kL.mono {f g:Txt->Option KnV} (h:LeK f g) {b c:zJ} (hr:kL f b c):kL g b c:=by
 induction hr with
 | refl b=>exact .refl b
 | step h1 h2 _ ih=>exact .step h1 (h _ _ h2) ih
theorem zo7 {f g:Txt->Option KnV} (hfg:LeK f g) {a b:zJ} (hr:kL g a b) (ho:b.over=false):∀ {n:Nat} {c:zJ},goF f n a=some c->
  (∃y,f b.asks=some y)\/(c=b/\f b.asks=none)\/(c.over=false/\f c.asks=none/\∃z,g c.asks=some z):=by
 induction hr with
 | refl b =>
  intro n c h
  cases n with
  | zero=>cases h
  | succ n =>
   rw[goF,if_neg (by rw[ho];simp)]at h
   cases hk:f b.asks with
   | some y=>exact .inl ⟨y,rfl⟩
   | none=>rw[hk]at h;cases h;exact .inr (.inl ⟨rfl,rfl⟩)
 | @step b0 _ k h1 h2 _ ih =>
  intro n c h
  cases n with
  | zero=>cases h
  | succ n =>
   rw[goF,if_neg (by rw[h1];simp)]at h
   cases hk:f b0.asks with
   | none=>rw[hk]at h;cases h;exact .inr (.inr ⟨h1,hk,k,h2⟩)
   | some y =>
    rw[hk]at h
    rw[hfg _ _ hk]at h2
    cases h2
    exact ih ho h
theorem vQ {S:wB} {i j:Nat} {p:Txt} (ha:zoI S i p) (hm:S.who p=some j) {k:Nat} {o:wZ} (h:fuS S k i=some o):∃m,m<k/\∃x,fuS S m j=some x:=by
 cases k with
 | zero=>cases h
 | succ k =>
  refine⟨k,by omega,?_⟩
  obtain⟨b,hr,ho,rfl⟩:=ha
  have h:uK S (fuS S k) i=some o:=h
  unfold uK at h
  cases hg:goF (kJ S (fuS S k)) 600 (S.b0 i)with
  | none=>rw[hg]at h;cases h
  | some c =>
   rw[hg]at h
   simp only at h
   rcases zo7 (ZX (gC k)) hr ho hg with⟨y,hy⟩|⟨rfl,_⟩|⟨hco,hcn,z,hz⟩
   ·unfold kJ at hy
    rw[hm]at hy
    simp only at hy
    cases hd:fuS S k j with
    | none=>rw[hd]at hy;cases hy
    | some x=>exact⟨x,rfl⟩
   ·rw[if_neg (by rw[ho];simp),hm]at h
    simp only at h
    cases hd:fuS S k j with
    | none=>rw[hd]at h;cases h
    | some x=>exact⟨x,rfl⟩
   ·exfalso
    rw[if_neg (by rw[hco];simp)]at h
    cases hmc:S.who c.asks with
    | none=>rw[hmc]at h;cases h
    | some j2 =>
     rw[hmc]at h
     simp only at h
     cases hd:fuS S k j2 with
     | none=>rw[hd]at h;cases h
     | some x =>
      rw[hd]at h
      simp only at h
      unfold kJ at hz
      rw[hmc]at hz
      simp only at hz
      rw[gC k j2 x hd]at hz
      simp only at hz
      by_cases hx:x.kind=2
      ·rw[if_neg (by omega)]at hz;cases hz
      ·rw[if_neg hx]at h;cases h
def KC (S:wB) (i j:Nat):Prop:=∃p,zoI S i p/\S.who p=some j
theorem zeM {S:wB} {i j:Nat} (h:Relation.TransGen (KC S) i j):∀ {k:Nat} {o:wZ},fuS S k i=some o->∃m,m<k/\∃x,fuS S m j=some x:=by
 induction h with
 | single h=>obtain⟨p,h1,h2⟩:=h;exact fun hk=>vQ h1 h2 hk
 | tail _ h ih =>
  intro k o hk
  obtain⟨m,hm,x,hx⟩:=ih hk
  obtain⟨p,h1,h2⟩:=h
  obtain⟨m2,hm2,y,hy⟩:=vQ h1 h2 hx
  exact⟨m2,by omega,y,hy⟩
theorem U6 {S:wB} {i:Nat} (h:Relation.TransGen (KC S) i i):jL S i=none:=by
 have:∀k,fuS S k i=none:=fun k=>by
  induction k using Nat.strongRecOn with
  | _ k ih =>
   cases hk:fuS S k i with
   | none=>rfl
   | some o =>
    obtain⟨m,hm,x,hx⟩:=zeM h hk
    rw[ih m hm]at hx
    cases hx
 cases hl:jL S i with
 | none=>rfl
 | some o =>
  obtain⟨k,hk⟩:=ZF.1 hl
  rw[this k]at hk;cases hk
theorem zia {S:wB} {i j:Nat} (h:KC S i j) (hj:jL S j=none):jL S i=none:=by
 cases hl:jL S i with
 | none=>rfl
 | some o =>
  obtain⟨k,hk⟩:=ZF.1 hl
  obtain⟨p,h1,h2⟩:=h
  obtain⟨m,_,x,hx⟩:=vQ h1 h2 hk
  rw[ZF.2 ⟨m,hx⟩]at hj;cases hj
noncomputable def xF (S:wB) (i:Nat):zJ:=(goF (kJ S (jL S)) 600 (S.b0 i)).getD (S.b0 i)
noncomputable def kS (S:wB) (i:Nat):wZ:=(jL S i).getD ⟨3,11,[],(xF S i).reads⟩
def zfa (S:wB) (i:Nat):Prop:=∃b,goF (kJ S (jL S)) 600 (S.b0 i)=some b
theorem G2 {S:wB} {i:Nat} (he:zfa S i) {b:zJ} (hr:kL (kJ S (jL S)) (S.b0 i) b) (h:b.over=true\/kJ S (jL S) b.asks=none):goF (kJ S (jL S)) 600 (S.b0 i)=some b/\xF S i=b:=by
 obtain⟨c,hc⟩:=he
 have:=zic hc hr h
 subst this
 exact⟨hc,by unfold xF;rw[hc];rfl⟩
theorem zeA {S:wB} {i:Nat} (he:zfa S i) {b:zJ} (hr:kL (kJ S (jL S)) (S.b0 i) b) (ho:b.over=true):kS S i=(ZH b).1/\jL S i=some (ZH b).1:=by
 obtain⟨h1,h2⟩:=G2 he hr (.inl ho)
 have h3:jL S i=some (ZH b).1:=by rw[za0];unfold uK;rw[h1];simp only;rw[if_pos ho]
 exact⟨by unfold kS;rw[h3];rfl,h3⟩
theorem CG {S:wB} {i j:Nat} (he:zfa S i) {b:zJ} (hr:kL (kJ S (jL S)) (S.b0 i) b) (ho:b.over=false) (hm:S.who b.asks=some j) {o:wZ} (hj:jL S j=some o) (hk:o.kind=2):kS S i=⟨2,16,[],b.reads⟩/\jL S i=some ⟨2,16,[],b.reads⟩:=by
 have hn:kJ S (jL S) b.asks=none:=by unfold kJ;rw[hm];simp only;rw[hj];simp only;rw[if_neg (by omega)]
 obtain⟨h1,h2⟩:=G2 he hr (.inr hn)
 have h3:jL S i=some ⟨2,16,[],b.reads⟩:=by
  rw[za0];unfold uK;rw[h1];simp only;rw[if_neg (by rw[ho];simp),hm];simp only;rw[hj];simp only;rw[if_pos hk]
 exact⟨by unfold kS;rw[h3];rfl,h3⟩
theorem zbb {S:wB} {i j:Nat} (he:zfa S i) {b:zJ} (hr:kL (kJ S (jL S)) (S.b0 i) b) (ho:b.over=false) (hm:S.who b.asks=some j) (hj:jL S j=none):kS S i=⟨3,11,[],b.reads⟩/\jL S i=none/\xF S i=b:=by
 have hn:kJ S (jL S) b.asks=none:=by unfold kJ;rw[hm];simp only;rw[hj]
 obtain⟨h1,h2⟩:=G2 he hr (.inr hn)
 have h3:jL S i=none:=zia ⟨b.asks,⟨b,hr,ho,rfl⟩,hm⟩ hj
 exact⟨by unfold kS;rw[h3,h2];rfl,h3,h2⟩
theorem zbU {S:wB} {i:Nat} {o:wZ} (h:jL S i=some o):o.kind=1\/o.kind=2:=by
 rw[za0]at h
 unfold uK at h
 cases hg:goF (kJ S (jL S)) 600 (S.b0 i)with
 | none=>rw[hg]at h;cases h
 | some b =>
  rw[hg]at h
  simp only at h
  by_cases hov:b.over=true
  ·rw[if_pos hov]at h
   cases h
   unfold ZH
   rw[if_neg (by rw[hov];simp)]
   split
   ·exact .inl rfl
   ·exact .inr rfl
  ·rw[if_neg hov]at h
   cases hm:S.who b.asks with
   | none=>rw[hm]at h;cases h
   | some j =>
    rw[hm]at h
    simp only at h
    cases hd:jL S j with
    | none=>rw[hd]at h;cases h
    | some x =>
     rw[hd]at h
     simp only at h
     split at h
     ·cases h;exact .inr rfl
     ·cases h
theorem D1 (S:wB) (i:Nat):((kS S i).kind=3/\jL S i=none)\/(jL S i=some (kS S i)/\((kS S i).kind=1\/(kS S i).kind=2)):=by
 cases h:jL S i with
 | none=>exact .inl ⟨by unfold kS;rw[h];rfl,rfl⟩
 | some o =>
  have:kS S i=o:=by unfold kS;rw[h];rfl
  rw[this]
  exact .inr ⟨rfl,zbU h⟩
noncomputable def JD (S:wB) (W:List Nat) (p:Txt):KnV × Int:=match S.who p with
 | none=>(JI S.fs p,1)
 | some j=>if j∈W then(⟨p,false,[]⟩,3) else if (kS S j).kind=1 then(JI (kS S j).outs p,1) else(⟨p,false,[]⟩,(kS S j).kind)
def zgk (S:wB) (W:List Nat) (i:Nat):Prop:=∀w∈W,Relation.TransGen (KC S) w i
theorem zgk.cons {S:wB} {W:List Nat} {i j:Nat} (h:zgk S W i) (hw:KC S i j):zgk S (W++[i]) j:=fun w hw2=>by
 rcases List.mem_append.1 hw2 with h2|h2
 ·exact(h w h2).tail hw
 ·rw[List.mem_singleton.1 h2];exact .single hw
theorem zfy {S:wB} {W:List Nat} {i:Nat} (hp:zgk S W i) (he:zfa S i) {b:zJ} (hr:kL (kJ S (jL S)) (S.b0 i) b) (ho:b.over=false) :
  ((JD S (W++[i]) b.asks).2=1/\kJ S (jL S) b.asks=some (JD S (W++[i]) b.asks).1)\/
  ((JD S (W++[i]) b.asks).2=2/\kS S i=⟨2,16,[],b.reads⟩/\kJ S (jL S) b.asks=none)\/
  ((JD S (W++[i]) b.asks).2=3/\kS S i=⟨3,11,[],b.reads⟩/\(jL S i=none/\xF S i=b)/\kJ S (jL S) b.asks=none):=by
 have hno:∀j,S.who b.asks=some j->jL S j=none->kJ S (jL S) b.asks=none:=fun j h1 h2=>by
  unfold kJ;rw[h1];simp only;rw[h2]
 unfold JD
 cases hm:S.who b.asks with
 | none=>exact .inl ⟨rfl,by unfold kJ;rw[hm]⟩
 | some j =>
  have hw:KC S i j:=⟨b.asks,⟨b,hr,ho,rfl⟩,hm⟩
  simp only
  by_cases hj:j∈W++[i]
  ·rw[if_pos hj]
   have hl:jL S j=none:=by
    rcases List.mem_append.1 hj with h|h
    ·exact U6 ((hp j h).tail hw)
    ·have e:=List.mem_singleton.1 h
     subst e
     exact U6 (.single hw)
   obtain⟨h1,h2,h3⟩:=zbb he hr ho hm hl
   exact .inr (.inr ⟨rfl,h1,⟨h2,h3⟩,hno j hm hl⟩)
  ·rw[if_neg hj]
   rcases D1 S j with⟨hk,hl⟩|⟨hl,hk|hk⟩
   ·rw[if_neg (by omega)]
    obtain⟨h1,h2,h3⟩:=zbb he hr ho hm hl
    exact .inr (.inr ⟨hk,h1,⟨h2,h3⟩,hno j hm hl⟩)
   ·rw[if_pos hk]
    refine .inl ⟨rfl,?_⟩
    unfold kJ;rw[hm];simp only;rw[hl];simp only;rw[if_pos hk]
   ·rw[if_neg (by omega)]
    refine .inr (.inl ⟨hk,(CG he hr ho hm hl hk).1,?_⟩)
    unfold kJ;rw[hm];simp only;rw[hl];simp only;rw[if_neg (by omega)]
structure BdV where
 ov:List (Nat × wZ)
 wt:List (Nat × Txt)
structure KN (S:wB) (n:Nat) (W:List Nat) (x:BdV):Prop where
 fin:∀p∈x.ov,p.1<n/\p.2=kS S p.1
 nd:(x.ov.map Prod.fst).Nodup
 st:∀p∈x.ov,jL S p.1=none->x.wt.find? (fun q=>decide (q.1=p.1))=some (p.1,(xF S p.1).asks)/\∃m,S.who (xF S p.1).asks=some m/\(m∈x.ov.map Prod.fst\/m∈W)
 wnd:W.Nodup
 wn:∀w∈W,w<n/\w∉x.ov.map Prod.fst
 wt:∀q∈x.wt,q.1∈x.ov.map Prod.fst\/q.1∈W
 cl:∀p∈x.ov,∀j,KC S p.1 j->j∈x.ov.map Prod.fst\/j∈W
def PQ (S:wB) (x x':BdV) (i:Nat):Prop:=∀j,j∈x'.ov.map Prod.fst->j∈x.ov.map Prod.fst\/j=i\/Relation.TransGen (KC S) i j
def ziO (S:wB) (x x':BdV) (p:Txt):Prop:=∀j,j∈x'.ov.map Prod.fst->j∈x.ov.map Prod.fst\/∃m,S.who p=some m/\(j=m\/Relation.TransGen (KC S) m j)
theorem PQ.refl (S:wB) (x:BdV) (i:Nat):PQ S x x i:=fun _ h=>.inl h
theorem ziO.refl (S:wB) (x:BdV) (p:Txt):ziO S x x p:=fun _ h=>.inl h
theorem PQ.step {S:wB} {x y z:BdV} {i:Nat} {p:Txt} (h:PQ S x y i) (h2:ziO S y z p) (ha:zoI S i p):PQ S x z i:=fun j hj=>by
 rcases h2 j hj with h3|⟨m,hm,h3⟩
 ·exact h j h3
 ·rcases h3 with rfl|h3
  ·exact .inr (.inr (.single ⟨p,ha,hm⟩))
  ·exact .inr (.inr (.trans (.single ⟨p,ha,hm⟩) h3))
theorem PQ.done {S:wB} {x y:BdV} {i:Nat} (h:PQ S x y i) (o:wZ) (wt:List (Nat × Txt)):PQ S x ⟨y.ov++[(i,o)],wt⟩ i:=fun j hj=>by
 rw[List.map_append,List.mem_append]at hj
 rcases hj with hj|hj
 ·exact h j hj
 ·exact .inr (.inl (by simpa using hj))
def xJ (S:wB) (i:Nat) (L:List Nat) (b:zJ):Prop:=∀c,kL (kJ S (jL S)) (S.b0 i) c->c.over=false->kL (kJ S (jL S)) b c\/∀j,S.who c.asks=some j->j∈L
theorem xJ.start (S:wB) (i:Nat) (L:List Nat):xJ S i L (S.b0 i):=fun _ h _=>.inl h
theorem xJ.mono {S:wB} {i:Nat} {L L':List Nat} {b:zJ} (h:xJ S i L b) (hL:∀j∈L,j∈L'):xJ S i L' b:=fun c h1 h2=>(h c h1 h2).imp_right fun h j hj=>hL j (h j hj)
theorem xJ.step {S:wB} {i:Nat} {L:List Nat} {b:zJ} {k:KnV} (h:xJ S i L b) (hk:kJ S (jL S) b.asks=some k) (hm:∀j,S.who b.asks=some j->j∈L):xJ S i L (y4 k b).2:=fun c h1 h2=>by
 rcases h c h1 h2 with h3|h3
 ·cases h3 with
  | refl=>exact .inr hm
  | step g1 g2 g3 =>
   rw[hk]at g2
   cases g2
   exact .inl g3
 ·exact .inr h3
theorem xJ.over {S:wB} {i:Nat} {L:List Nat} {b:zJ} (h:xJ S i L b) (ho:b.over=true):∀j,KC S i j->j∈L:=fun j ⟨p,⟨c,h1,h2,h3⟩,h4⟩=>by
 rcases h c h1 h2 with h5|h5
 ·cases h5 with
  | refl=>rw[ho]at h2;cases h2
  | step g1 _ _=>rw[ho]at g1;cases g1
 ·exact h5 j (by rw[h3];exact h4)
theorem xJ.stop {S:wB} {i:Nat} {L:List Nat} {b:zJ} (h:xJ S i L b) (hn:kJ S (jL S) b.asks=none) (hm:∀j,S.who b.asks=some j->j∈L):∀j,KC S i j->j∈L:=fun j ⟨p,⟨c,h1,h2,h3⟩,h4⟩=>by
 rcases h c h1 h2 with h5|h5
 ·cases h5 with
  | refl=>exact hm j (by rw[h3];exact h4)
  | step _ g2 _=>rw[hn]at g2;cases g2
 ·exact h5 j (by rw[h3];exact h4)
theorem KN.begin {S:wB} {n:Nat} {W:List Nat} {x:BdV} {i:Nat} (h:KN S n W x) (hi:i<n) (hW:i∉W) (hx:i∉x.ov.map Prod.fst):KN S n (W++[i]) x where
 fin:=h.fin
 nd:=h.nd
 st:=fun p hp hl=>by
  obtain⟨h1,m,h2,h3⟩:=h.st p hp hl
  exact⟨h1,m,h2,h3.imp_right fun h=>List.mem_append_left _ h⟩
 wnd:=by
  rw[List.nodup_append]
  exact⟨h.wnd,by simp,fun a ha b hb=>by rw[List.mem_singleton.1 hb];exact fun e=>hW (e▸ha)⟩
 wn:=fun w hw=>by
  rcases List.mem_append.1 hw with hw|hw
  ·exact h.wn w hw
  ·rw[List.mem_singleton.1 hw];exact⟨hi,hx⟩
 wt:=fun q hq=>(h.wt q hq).imp_right fun h=>List.mem_append_left _ h
 cl:=fun p hp j hj=>(h.cl p hp j hj).imp_right fun h=>List.mem_append_left _ h
theorem KN.done {S:wB} {n:Nat} {W:List Nat} {x:BdV} {i:Nat} (h:KN S n (W++[i]) x) (wt':List (Nat × Txt)) (h1:∀j,j≠i->wt'.find? (fun q=>decide (q.1=j))=x.wt.find? fun q=>decide (q.1=j))
  (h2:jL S i=none->wt'.find? (fun q=>decide (q.1=i))=some (i,(xF S i).asks)/\∃m,S.who (xF S i).asks=some m/\(m∈x.ov.map Prod.fst\/m∈W++[i])) (h3:∀q∈wt',q.1∈x.ov.map Prod.fst\/q.1∈W++[i]) (h4:∀j,KC S i j->j∈x.ov.map Prod.fst++(W++[i])):KN S n W ⟨x.ov++[(i,kS S i)],wt'⟩:=by
 obtain⟨hi,hx⟩:=h.wn i (by simp)
 have hnd:=h.wnd
 rw[List.nodup_append]at hnd
 have hmv:∀m,(m∈x.ov.map Prod.fst\/m∈W++[i])->m∈(x.ov++[(i,kS S i)]).map Prod.fst\/m∈W:=fun m hm=>by
  rw[List.map_append,List.mem_append]
  rcases hm with hm|hm
  ·exact .inl (.inl hm)
  ·rcases List.mem_append.1 hm with hm|hm
   ·exact .inr hm
   ·exact .inl (.inr (by simpa using hm))
 exact {
  fin:=fun p hp=>by
   rcases List.mem_append.1 hp with hp|hp
   ·exact h.fin p hp
   ·rw[List.mem_singleton.1 hp];exact⟨hi,rfl⟩
  nd:=by
   rw[List.map_append,List.nodup_append]
   exact⟨h.nd,by simp,fun a ha b hb e=>hx (by rw[List.mem_singleton.1 hb]at e;have e:a=i:=e;exact e▸ha)⟩
  st:=fun p hp hl=>by
   rcases List.mem_append.1 hp with hp|hp
   ·obtain⟨g1,m,g2,g3⟩:=h.st p hp hl
    have hne:p.1≠i:=fun e=>hx (e▸List.mem_map.2 ⟨p,hp,rfl⟩)
    exact⟨by rw[h1 _ hne];exact g1,m,g2,hmv m g3⟩
   ·have e:=List.mem_singleton.1 hp
    subst e
    obtain⟨g1,m,g2,g3⟩:=h2 hl
    exact⟨g1,m,g2,hmv m g3⟩
  wnd:=hnd.1
  wn:=fun w hw=>by
   obtain⟨g1,g2⟩:=h.wn w (List.mem_append_left _ hw)
   refine⟨g1,?_⟩
   rw[List.map_append,List.mem_append,not_or]
   exact⟨g2,by simpa using hnd.2.2 w hw i (by simp)⟩
  wt:=fun q hq=>hmv q.1 (h3 q hq)
  cl:=fun p hp j hj=>by
   rcases List.mem_append.1 hp with hp|hp
   ·exact hmv j (h.cl p hp j hj)
   ·rw[List.mem_singleton.1 hp]at hj
    exact hmv j (List.mem_append.1 (h4 j hj)) }
theorem KN.room {S:wB} {n:Nat} {W:List Nat} {x:BdV} {i:Nat} (h:KN S n W x) (hi:i<n) (hW:i∉W):W.length<n:=by
 have h1:(W++[i]).Nodup:=by
  rw[List.nodup_append]
  exact⟨h.wnd,by simp,fun a ha b hb=>by rw[List.mem_singleton.1 hb];exact fun e=>hW (e▸ha)⟩
 have h2:=List.Nodup.length_le_of_subset (l₂:=List.range n) h1 fun w hw=>by
  rcases List.mem_append.1 hw with hw|hw
  ·exact List.mem_range.2 (h.wn w hw).1
  ·rw[List.mem_singleton.1 hw];exact List.mem_range.2 hi
 simp at h2
 omega
end Go.Proofs.YtdkieabmeiojjaaGreatDoor
end
section
set_option maxRecDepth 100000
namespace Go.Proofs.YtdkieabmeiojjaaGreatDoor
open Go Go.Ab
open Classical
variable [Sel] [SelPow] [SelMax]
def OvD (r:qG):Prop:=r.over.data.length<=65536
theorem OvD.fail (e:Int) (r:qG):OvD (w6 e r):=by simp[OvD,w6]
section
variable {r:qG} (h:OvD r)
include h
theorem OvD.add (s:Txt):OvD (y6 s r):=by
 unfold y6
 split
 ·exact .fail _ _
 ·exact h
theorem OvD.th:∀t d,OvD (thR t d r)
 | .add,d=>h.add d
 | .scan _,_=>h
theorem OvD.co:∀k x,OvD (coR k x r)
 | .there t,x=>by
  rw[coR]
  split
  ·exact h.th _ _
  ·exact .fail _ _
 | .tr,x=>by
  rw[coR]
  split
  ·exact h.add _
  ·exact h
theorem OvD.ask (p:Txt) (k:CoV):OvD (yN p k r):=by
 unfold yN
 split
 ·exact h.co _ _
 split
 ·exact .fail _ _
 ·exact h
theorem OvD.scan (p w:Txt) (l:List Txt):OvD (ZD p w { r with seen:=l }):=OvD.ask (r:={ r with seen:=l++[p] }) h _ _
theorem OvD.set (l:List Txt):OvD (kH l r):=OvD.add (r:={ r with buf:=[] }) h _
theorem OvD.turn (a b:Txt):OvD (kX a b r):=by
 unfold kX
 split
 ·exact h.set _
 split
 ·exact h.set _
 split
 ·exact h
 split
 ·exact h
 split
 ·exact h.set _
 ·exact h
theorem OvD.td (hb:r.buf.length<=65536):∀t,OvD (tdR t r)
 | .cmd c=>by
  show OvD (doR c r)
  unfold doR
  simp only
  split
  ·exact h.ask _ _
  split
  ·exact h.ask _ _
  split
  ·exact h.scan _ _ _
  split
  ·exact h.add _
  split
  ·split
   ·exact h.add _
   ·exact .fail _ _
  split
  ·exact hb
  split
  ·split
   ·exact h
   ·exact .fail _ _
  split
  ·exact .fail _ _
  ·exact h.turn _ _
 | .ans k p=>h.co _ _
 | .line s w=>by
  show OvD (QP s w r)
  unfold QP
  split
  ·split
   ·exact h.add _
   split
   ·exact h
   ·exact h.scan _ _ r.seen
  ·exact h.add _
theorem OvD.step (hb:r.buf.length<=65536):OvD (yX r):=by
 unfold yX
 split
 ·simp[OvD]
 ·exact OvD.td (r:={ r with todo:=r.todo.dropLast }) h hb _
end
theorem OvD.runN:∀(n:Nat) {r r':qG},runN n r=some r'->kK r->OvD r->OvD r'
 | 0,_,_,h,_,_=>by cases h
 | n+1,r,r',h,hg,ho=>by
  rw[Go.Proofs.YtdkieabmeiojjaaGreatDoor.runN]at h
  by_cases hs:kE r=true
  ·rw[if_pos hs]at h;cases h;exact ho
  ·rw[if_neg hs]at h
   exact OvD.runN n h (hg.step (by simpa using hs)) (ho.step hg.inv.s.2.2.1)
theorem OvD.settle {r:qG} (h:OvD r) (hg:kK r):OvD (k9 r):=.runN _ (y9 hg.inv).1 hg h
structure XK (b:zJ):Prop where
 ov:OvD b.run
 wr:∀w∈b.wrote,w.2.length<=65536
 asks:b.asks.length<=1040
 rd:∀r∈b.reads,r.path.length<=1040
theorem XK.round {b:zJ} (h:XK b) (hg:QE b):XK (roundB b).1:=by
 have h1:OvD (kN b.run).2/\(kN b.run).1.data.length<=65536:=by
  have:=h.ov.settle hg.good
  unfold kN
  simp only
  split
  ·exact⟨this,by simp⟩
  ·refine⟨?_,this⟩
   split
   ·simp[OvD,do0]
   ·exact this
 have h0:=hg.round.2
 have h3:(roundB b).1.reads=b.reads/\(roundB b).1.asks.length<=1040:=by
  unfold roundB KI y8
  simp only
  split
  ·rename_i hk
   split
   ·exact⟨rfl,h0 hk⟩
   ·exact⟨rfl,h.asks⟩
  split
  ·split<;>exact⟨rfl,h.asks⟩
  split
  ·split<;>exact⟨rfl,h.asks⟩
  ·exact⟨rfl,h.asks⟩
 have h2:(roundB b).1.run=(kN b.run).2/\((roundB b).1.wrote=b.wrote\/(roundB b).1.wrote=b.wrote++[((kN b.run).1.path,(kN b.run).1.data)]):=by
  unfold roundB KI y8
  simp only
  split
  ·split<;>exact⟨rfl,.inl rfl⟩
  split
  ·split
   ·exact⟨rfl,.inl rfl⟩
   ·exact⟨rfl,.inr rfl⟩
  split
  ·split<;>exact⟨rfl,.inl rfl⟩
  ·exact⟨rfl,.inl rfl⟩
 refine⟨by rw[h2.1];exact h1.1,fun w hw=>?_,h3.2,by rw[h3.1];exact h.rd⟩
 rcases h2.2 with e|e<;>rw[e]at hw
 ·exact h.wr w hw
 ·rcases List.mem_append.1 hw with hw|hw
  ·exact h.wr w hw
  ·rw[List.mem_singleton.1 hw];exact h1.2
theorem XK.goN:∀(n:Nat) {b b':zJ},goN n b=some b'->QE b->XK b->XK b'
 | 0,b,b',h,_,_=>by cases h
 | n+1,b,b',h,hg,hd=>by
  rw[Go.Proofs.YtdkieabmeiojjaaGreatDoor.goN]at h
  by_cases ho:b.over=true
  ·rw[if_pos ho]at h;cases h;exact hd
  rw[if_neg ho]at h
  by_cases h2:(roundB b).2=true
  ·rw[if_pos h2]at h;cases h;exact hd.round hg
  ·rw[if_neg h2]at h
   exact XK.goN n h hg.roundB (hd.round hg)
theorem XK.goOn {b:zJ} (hg:QE b) (h:XK b):XK (QX b):=by
 unfold QX
 cases e:Go.Proofs.YtdkieabmeiojjaaGreatDoor.goN (ccR b.run+2) b with
 | none=>exact h
 | some b'=>exact XK.goN _ e hg h
theorem XK.give {b:zJ} (h:XK b) (hg:QE b) {k:KnV} (hk:b.over=false->k.path=b.asks->QE (za5 k b)):XK (y4 k b).2:=by
 unfold y4
 split
 ·exact h
 rename_i g1
 split
 ·exact h
 rename_i g2
 split
 ·exact h
 rename_i g3
 have g2:k.path=b.asks:=by simpa using g2
 refine XK.goOn (hk (by simpa using g1) g2) ⟨?_,h.wr,h.asks,fun r hr=>?_⟩
 ·have:=h.ov.settle hg.good
  unfold Z2
  simp only
  split
  ·exact this
  split
  ·exact this
  exact this
 ·rcases List.mem_append.1 hr with hr|hr
  ·exact h.rd r hr
  ·rw[List.mem_singleton.1 hr]
   show k.path.length<=1040
   rw[g2];exact h.asks
theorem zdk {f:Txt->Option KnV} (hf:Ans f):∀(n:Nat) {b b':zJ},goF f n b=some b'->(∀r∈b.reads,∃k,f r.path=some k/\QW k=r)->∀r∈b'.reads,∃k,f r.path=some k/\QW k=r
 | 0,_,_,h,_=>by cases h
 | n+1,b,b',h,hp=>by
  rw[goF]at h
  by_cases ho:b.over=true
  ·rw[if_pos ho]at h;cases h;exact hp
  rw[if_neg ho]at h
  have ho':b.over=false:=by simpa using ho
  cases hk:f b.asks with
  | none=>rw[hk]at h;cases h;exact hp
  | some k =>
   rw[hk]at h
   obtain⟨h1,h2⟩:=hf _ _ hk
   refine zdk hf n h fun r hr=>?_
   rw[zdX ho' h1 h2]at hr
   rcases List.mem_append.1 hr with hr|hr
   ·exact hp r hr
   ·rw[List.mem_singleton.1 hr]
    exact⟨k,by rw[show (QW k).path=b.asks from h1];exact hk,rfl⟩
theorem zgY {env:List (Txt × Txt)} {cs:List CmdV} {outs:List Txt} {may:Txt->Bool} {f:Txt->Option KnV} (hf:Ans f):∀(n:Nat) {kn:List KnV} {b b':zJ},WN env cs outs may kn b->XK b->goF f n b=some b'->XK b'
 | 0,_,_,_,_,_,h=>by cases h
 | n+1,kn,b,b',hk,hd,h=>by
  rw[goF]at h
  by_cases ho:b.over=true
  ·rw[if_pos ho]at h;cases h;exact hd
  rw[if_neg ho]at h
  have ho':b.over=false:=by simpa using ho
  cases hfk:f b.asks with
  | none=>rw[hfk]at h;cases h;exact hd
  | some k =>
   rw[hfk]at h
   simp only at h
   obtain⟨hk1,hk2⟩:=hf _ _ hfk
   exact zgY hf n (hk.give k ho' hk1 (fun _=>hk2)).2 (hd.give hk.g fun h3 h2=>(hk.can k h3 h2 (fun _=>hk2)).good) h
theorem zhU {a:QT} (ha:zm2 a) (hw:∀p∈a.outs,p.length<=2000000) {cs:List CmdV} (hcs:zL a.tool=.ok cs) {f:Txt->Option KnV} (hf:Ans f) {b:zJ} (h:goF f 600 (X3 a.env a.outs (QS a) cs)=some b) (g2:b.over=true) :
  (∀r∈(ZH b).1.reads,∃k,f r.path=some k/\QW k=r)/\(ZH b).1.reads.length<=500/\(∀r∈(ZH b).1.reads,r.path.length<=1040)/\
  (ZH b).1.outs.length<=2000000/\∀f∈(ZH b).1.outs,f.path.length<=2000000/\f.data.length<=65536:=by
 have g3:=dV hcs (env:=a.env) (by have:=ha.be;omega) ha.bev a.outs (QS a)
 obtain⟨kn',hk⟩:=znp hf 600 g3 h
 have hd:=zgY hf 600 g3 (XK.goOn (p6 hcs (by have:=ha.be;omega) ha.bev _ _) ⟨by simp[OvD,GX,do0],by simp[GX],by simp[GX],by simp[GX]⟩) h
 have hn0:(X3 a.env a.outs (QS a) cs).reads=[]:=by
  obtain⟨m,h⟩:=zfq a.env a.outs (QS a) cs (Q8 hcs)
  exact h.reads
 have ht:=zdk hf 600 h (by rw[hn0];simp)
 simp only[zfo g2]
 obtain⟨wr,hs⟩:=hk.s
 refine⟨ht,hk.rl,hd.rd,?_,fun f hf=>?_⟩
 ·have:=hk.wl ha.bo
  unfold ZH
  split
  ·simp
  split
  ·simp only[JA,List.length_map,Q9];omega
  ·simp
 ·have hf':f∈JA b:=by
   unfold ZH at hf
   rw[if_neg (by rw[g2];decide)]at hf
   split at hf
   ·exact hf
   ·cases hf
  obtain⟨p,hp,rfl⟩:=List.mem_map.1 hf'
  have hp:=(ZO _).mem_iff.1 hp
  refine⟨hw _ ?_,?_⟩
  ·rw[hs.wrote]at hp
   simp only[List.map_map,List.mem_map]at hp
   obtain⟨w,h1,rfl⟩:=hp
   exact hs.own w h1
  ·show ((b.wrote.find? fun x=>decide (x.1=p)).getD ([],[])).2.length<=_
   cases e:b.wrote.find? (fun x=>decide (x.1=p))with
   | none=>simp
   | some x=>exact hd.wr _ (List.mem_of_find?_eq_some e)
end Go.Proofs.YtdkieabmeiojjaaGreatDoor
end
