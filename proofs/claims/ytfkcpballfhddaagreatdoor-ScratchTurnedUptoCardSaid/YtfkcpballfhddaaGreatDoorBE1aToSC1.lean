/- The law BoxEnds: the program. No condition. -/
import Derived.Test.YtfkcpballfhddaaGreatDoorBE0
set_option linter.unusedSimpArgs false
set_option linter.unusedVariables false
set_option linter.unusedSectionVars false
set_option maxRecDepth 100000
namespace Go.Proofs.YtfkcpballfhddaaGreatDoor
open Go Go.Ab
open Classical
section
variable [Sel] [SelPow] [SelMax]
noncomputable def goF (f:Txt->Option KnV):Nat->j9->Option j9
 | 0,_=>none
 | n+1,b=>if b.over=true then some b else match f b.asks with
  | none=>some b
  | some k=>goF f n (yN k b).2
def Ans (f:Txt->Option KnV):Prop:=∀p k,f p=some k->k.path=p/\k.data.length<=65536
theorem zqw {env:List (Txt × Txt)} {c0:CfV} {outs:List Txt} {may:Txt->Bool} {f:Txt->Option KnV} (hf:Ans f):∀(n:Nat) {kn:List KnV} {wr:List DoV} {b:j9},uQ env c0 kn outs may wr b->500-kn.length<n->
  ∃b',goF f n b=some b'/\(b'.over=true\/f b'.asks=none)
 | 0,_,_,_,_,h=>absurd h (Nat.not_lt_zero _)
 | n+1,kn,wr,b,h,hn=>by
  rw[goF]
  by_cases ho:b.over=true
  ·simp_all
  rw[if_neg ho]
  have ho':b.over=false:=by simp_all
  cases hk:f b.asks with
  | none=>simp_all
  | some k =>
   simp only
   obtain⟨hk1,hk2⟩:=hf _ _ hk
   obtain⟨_,m,hg⟩:=h.give ho' k hk1 (fun _=>hk2)
   have hl:=hg.len
   simp only[List.length_append,List.length_cons,List.length_nil]at hl
   exact zqw hf n hg (by grind)
theorem zpL {t:Txt} {cs:List CmdV} (hcs:jB t=.ok cs) {env:List (Txt × Txt)} (h1:env.length<=1000000000) (h2:∀x∈env,x.2.length<=1000000000000000) {outs:List Txt} {may:Txt->Bool} {f:Txt->Option KnV} (hf:Ans f) :
  ∃b',goF f 600 (U0 env outs may cs)=some b'/\YO env cs outs may [] (U0 env outs may cs)/\(b'.over=true\/f b'.asks=none):=by
 obtain⟨m,h⟩:=zh9 env outs may cs (ZC hcs)
 obtain⟨b',g1,g2⟩:=zqw hf 600 h (by simp)
 grind [zbc]
theorem zmP {env:List (Txt × Txt)} {cs:List CmdV} {outs:List Txt} {may:Txt->Bool} {f:Txt->Option KnV} (hf:Ans f):∀(n:Nat) {kn:List KnV} {b b':j9},YO env cs outs may kn b->goF f n b=some b'->∃kn',YO env cs outs may kn' b'
 | 0,_,_,_,_,h=>by cases h
 | n+1,kn,b,b',hk,h=>by
  rw[goF]at h
  by_cases ho:b.over=true
  ·grind
  rw[if_neg ho]at h
  have ho':b.over=false:=by simp_all
  cases hfk:f b.asks with
  | none=>grind
  | some k =>
   rw[hfk]at h
   simp only at h
   obtain⟨hk1,hk2⟩:=hf _ _ hfk
   exact zmP hf n (hk.give k ho' hk1 (fun _=>hk2)).2 h
theorem zf6 {b:j9} {k:KnV} (ho:b.over=false) (hp:k.path=b.asks) (hd:k.data.length<=65536):(yN k b).2.reads=b.reads++[QU k]:=by
 simp_all[yN,if_neg,zhq]
def ZK (fs:List jM) (p:Txt):KnV:=match fs.find? fun f=>decide (f.path=p)with
 | none=>⟨p,false,[]⟩
 | some f=>⟨p,true,f.data⟩
def C0 (fs:List jM):Bool:=fs.any fun f=>decide (65536<f.data.length)
noncomputable def zsp (fs:List jM):Txt->Option KnV:=fun p=>some (ZK fs p)
theorem dQ (fs:List jM) (p:Txt):(ZK fs p).path=p:=by grind [ZK]
theorem zfo {fs:List jM} (h:C0 fs=false):Ans (zsp fs):=by
 intro p k hk
 have hk:=(Option.some.inj hk).symm
 grind [ZK,C0]
structure kV where
 b0:Nat->j9
 who:Txt->Option Nat
 fs:List jM
def LeO (D D':Nat->Option yH):Prop:=∀i o,D i=some o->D' i=some o
def LeK (f g:Txt->Option KnV):Prop:=∀p k,f p=some k->g p=some k
def kF (S:kV) (D:Nat->Option yH) (p:Txt):Option KnV:=match S.who p with
 | none=>some (ZK S.fs p)
 | some j=>match D j with
  | none=>none
  | some o=>if o.kind=1 then some (ZK o.outs p) else none
noncomputable def xF (S:kV) (D:Nat->Option yH) (i:Nat):Option yH:=match goF (kF S D) 600 (S.b0 i)with
 | none=>none
 | some b=>if b.over=true then some (JH b).1 else match S.who b.asks with
  | none=>none
  | some j=>match D j with
   | none=>none
   | some o=>if o.kind=2 then some ⟨2,16,[],b.reads⟩ else none
noncomputable def fuS (S:kV):Nat->Nat->Option yH
 | 0=>fun _=>none
 | k+1=>xF S (fuS S k)
noncomputable def jI (S:kV) (i:Nat):Option yH:=if h:∃o,∃k,fuS S k i=some o then some h.choose else none
theorem J4 {S:kV} {D D':Nat->Option yH} (h:LeO D D'):LeK (kF S D) (kF S D'):=by
 intro p k hk
 unfold kF at hk |-
 cases hm:S.who p with
 | none=>simp_all
 | some j =>
  rw[hm]at hk
  simp only at hk |-
  cases hd:D j with
  | none=>simp_all
  | some o =>
   rw[hd]at hk
   rw[h j o hd]
   exact hk
theorem VE {f:Txt->Option KnV}:∀(n:Nat) {b b':j9},goF f n b=some b'->b'.over=true\/f b'.asks=none
 | 0,_,_,h=>by cases h
 | n+1,b,b',h=>by
  rw[goF]at h
  by_cases ho:b.over=true
  ·simp_all
  rw[if_neg ho]at h
  cases hk:f b.asks with
  | none=>rw[hk]at h;cases h;exact .inr hk
  | some k=>rw[hk]at h;exact VE n h
theorem vK {f g:Txt->Option KnV} (hfg:LeK f g):∀(n:Nat) {b b':j9},goF f n b=some b'->(b'.over=true\/g b'.asks=none)->goF g n b=some b'
 | 0,_,_,h,_=>by cases h
 | n+1,b,b',h,he=>by
  rw[goF]at h |-
  by_cases ho:b.over=true
  ·simp_all
  rw[if_neg ho]at h |-
  cases hk:f b.asks with
  | none =>
   simp_all
  | some k =>
   rw[hk]at h
   rw[hfg _ _ hk]
   exact vK hfg n h he
theorem zdf {S:kV} {D D':Nat->Option yH} (h:LeO D D'):LeO (xF S D) (xF S D'):=by
 intro i o ho
 unfold xF at ho |-
 cases hg:goF (kF S D) 600 (S.b0 i)with
 | none=>simp_all
 | some b =>
  rw[hg]at ho
  simp only at ho
  by_cases hov:b.over=true
  ·rw[if_pos hov]at ho
   rw[vK (J4 h) 600 hg (.inl hov)]
   simp_all
  ·rw[if_neg hov]at ho
   cases hm:S.who b.asks with
   | none=>simp_all
   | some j =>
    rw[hm]at ho
    simp only at ho
    cases hd:D j with
    | none=>simp_all
    | some x =>
     rw[hd]at ho
     simp only at ho
     by_cases hx:x.kind=2
     ·have hn:kF S D' b.asks=none:=by
       unfold kF;rw[hm];simp only;rw[h j x hd];simp_all
      rw[vK (J4 h) 600 hg (.inr hn)]
      simp only
      rw[if_neg hov,hm]
      simp only
      rw[h j x hd]
      exact ho
     simp_all
theorem zbI {S:kV}:∀k,LeO (fuS S k) (fuS S (k+1))
 | 0=>fun i o h=>by cases h
 | k+1=>zdf (zbI k)
theorem dA {S:kV} {k m:Nat} (h:k<=m):LeO (fuS S k) (fuS S m):=by
 induction m with
 | zero =>
      have:k=0:=by omega
      subst this;exact fun _ _ h=>h
 | succ m ih =>
  by_cases hk:k=m+1
  ·subst hk;exact fun _ _ h=>h
  ·exact fun i o ho=>zbI m i o (ih (by omega) i o ho)
theorem QI {S:kV} {i:Nat} {o:yH}:jI S i=some o<->∃k,fuS S k i=some o:=by
 unfold jI
 constructor
 ·intro h
  split at h
  ·grind
  ·cases h
 ·rintro⟨k,hk⟩
  have hx:∃o,∃k,fuS S k i=some o:=⟨o,k,hk⟩
  rw[dif_pos hx]
  obtain⟨m,hm⟩:=hx.choose_spec
  have h1:=dA (Nat.le_max_left k m) i o hk
  have h2:=dA (Nat.le_max_right k m) i _ hm
  simp_all
theorem pE {S:kV} (k:Nat):LeO (fuS S k) (jI S):=fun i o h=>QI.2 ⟨k,h⟩
theorem zjH {S:kV}:∀(n:Nat) {b b':j9},goF (kF S (jI S)) n b=some b'->∃k,goF (kF S (fuS S k)) n b=some b'
 | 0,_,_,h=>by cases h
 | n+1,b,b',h=>by
  have he:=VE (n+1) h
  rw[goF]at h
  by_cases ho:b.over=true
  ·simp_all[goF]
  rw[if_neg ho]at h
  cases hk:kF S (jI S) b.asks with
  | none =>
   rw[hk]at h
   refine⟨0,?_⟩
   rw[goF,if_neg ho]
   grind [kF,fuS]
  | some x =>
   rw[hk]at h
   obtain⟨k,hg⟩:=zjH n h
   obtain⟨m,hm⟩:∃m,kF S (fuS S m) b.asks=some x:=by
    unfold kF at hk |-
    cases hmk:S.who b.asks with
    | none=>simp_all
    | some j =>
     grind [QI]
   refine⟨max k m,?_⟩
   rw[goF,if_neg ho,J4 (dA (Nat.le_max_right k m)) _ _ hm]
   refine vK (J4 (dA (Nat.le_max_left k m))) n hg ?_
   rcases he with he|he
   ·exact .inl he
   ·refine .inr ?_
    cases hz:kF S (fuS S (max k m)) b'.asks with
    | none=>rfl
    | some y=>rw[J4 (pE _) _ _ hz]at he;cases he
theorem vR {S:kV} (i:Nat):jI S i=xF S (jI S) i:=by
 cases h:jI S i with
 | some o =>
  obtain⟨k,hk⟩:=QI.1 h
  exact(zdf (pE k) i o (zbI k i o hk)).symm
 | none =>
  cases h2:xF S (jI S) i with
  | none=>rfl
  | some o =>
   exfalso
   have hx:∃k,xF S (fuS S k) i=some o:=by
    unfold xF at h2
    cases hg:goF (kF S (jI S)) 600 (S.b0 i)with
    | none=>simp_all
    | some b =>
     rw[hg]at h2
     simp only at h2
     obtain⟨k,hk⟩:=zjH 600 hg
     by_cases hov:b.over=true
     ·rw[if_pos hov]at h2
      exact⟨k,by simp_all[xF]⟩
     ·rw[if_neg hov]at h2
      cases hm:S.who b.asks with
      | none=>simp_all
      | some j =>
       rw[hm]at h2
       simp only at h2
       cases hd:jI S j with
       | none=>simp_all
       | some x =>
        rw[hd]at h2
        simp only at h2
        obtain⟨m,hm2⟩:=QI.1 hd
        by_cases hx:x.kind=2
        ·refine⟨max k m,?_⟩
         have h3:=dA (Nat.le_max_right k m) j x hm2
         have hn:kF S (fuS S (max k m)) b.asks=none:=by
          simp_all[kF]
         unfold xF
         rw[vK (J4 (dA (Nat.le_max_left k m))) 600 hk (.inr hn)]
         simp_all
        simp_all
   obtain⟨k,hk⟩:=hx
   have:fuS S (k+1) i=some o:=hk
   grind [QI]
inductive kM (f:Txt->Option KnV):j9->j9->Prop
 | refl (b:j9):kM f b b
 | step {b c:j9} {k:KnV}:b.over=false->f b.asks=some k->kM f (yN k b).2 c->kM f b c
theorem kM.snoc {f:Txt->Option KnV} {b c:j9} {k:KnV} (h:kM f b c) (ho:c.over=false) (hk:f c.asks=some k):kM f b (yN k c).2:=by
 induction h with
 | refl b=>exact .step ho hk (.refl _)
 | step h1 h2 _ ih=>exact .step h1 h2 (ih ho hk)
theorem KV {f:Txt->Option KnV}:∀(n:Nat) {b b':j9},goF f n b=some b'->kM f b b'
 | 0,_,_,h=>by cases h
 | n+1,b,b',h=>by
  rw[goF]at h
  by_cases ho:b.over=true
  ·rw[if_pos ho]at h;cases h;exact .refl _
  rw[if_neg ho]at h
  cases hk:f b.asks with
  | none=>rw[hk]at h;cases h;exact .refl _
  | some k=>rw[hk]at h;exact .step (by simp_all) hk (KV n h)
theorem kM.two {f:Txt->Option KnV} {b x:j9} (hx:kM f b x):∀ {y:j9},kM f b y->kM f x y\/kM f y x:=by
 induction hx with
 | refl b=>simp_all
 | step h1 h2 h3 ih =>
  intro y hy
  cases hy with
  | refl=>exact .inr (.step h1 h2 h3)
  | step g1 g2 g3 =>
   simp_all
theorem kM.stop {f:Txt->Option KnV} {b c:j9} (h:kM f b c) (he:b.over=true\/f b.asks=none):c=b:=by
 cases h with
 | refl=>rfl
 | step h1 h2 _ =>
  simp_all
theorem zli {f:Txt->Option KnV} {n:Nat} {b b' c:j9} (hg:goF f n b=some b') (h:kM f b c) (he:c.over=true\/f c.asks=none):b'=c:=by
 rcases h.two (KV n hg)with h1|h1
 ·exact h1.stop he
 ·exact(h1.stop (VE n hg)).symm
def zeQ (S:kV) (i:Nat) (p:Txt):Prop:=∃b,kM (kF S (jI S)) (S.b0 i) b/\b.over=false/\b.asks=p
theorem kM.mono {f g:Txt->Option KnV} (h:LeK f g) {b c:j9} (hr:kM f b c):kM g b c:=by
 induction hr with
 | refl b=>exact .refl b
 | step h1 h2 _ ih=>exact .step h1 (h _ _ h2) ih
theorem zrF {f g:Txt->Option KnV} (hfg:LeK f g) {a b:j9} (hr:kM g a b) (ho:b.over=false):∀ {n:Nat} {c:j9},goF f n a=some c->
  (∃y,f b.asks=some y)\/(c=b/\f b.asks=none)\/(c.over=false/\f c.asks=none/\∃z,g c.asks=some z):=by
 induction hr with
 | refl b =>
  intro n c h
  cases n with
  | zero=>cases h
  | succ n =>
   rw[goF,if_neg (by rw[ho];simp)]at h
   grind
 | @step b0 _ k h1 h2 _ ih =>
  intro n c h
  cases n with
  | zero=>cases h
  | succ n =>
   rw[goF,if_neg (by rw[h1];simp)]at h
   cases hk:f b0.asks with
   | none=>simp_all
   | some y =>
    rw[hk]at h
    rw[hfg _ _ hk]at h2
    grind
theorem G5 {S:kV} {i j:Nat} {p:Txt} (ha:zeQ S i p) (hm:S.who p=some j) {k:Nat} {o:yH} (h:fuS S k i=some o):∃m,m<k/\∃x,fuS S m j=some x:=by
 cases k with
 | zero=>cases h
 | succ k =>
  refine⟨k,by omega,?_⟩
  obtain⟨b,hr,ho,rfl⟩:=ha
  have h:xF S (fuS S k) i=some o:=h
  unfold xF at h
  cases hg:goF (kF S (fuS S k)) 600 (S.b0 i)with
  | none=>simp_all
  | some c =>
   rw[hg]at h
   simp only at h
   rcases zrF (J4 (pE k)) hr ho hg with⟨y,hy⟩|⟨rfl,_⟩|⟨hco,hcn,z,hz⟩
   ·unfold kF at hy
    grind
   ·grind
   ·exfalso
    rw[if_neg (by simp_all)]at h
    cases hmc:S.who c.asks with
    | none=>simp_all
    | some j2 =>
     rw[hmc]at h
     simp only at h
     cases hd:fuS S k j2 with
     | none=>simp_all
     | some x =>
      rw[hd]at h
      simp only at h
      unfold kF at hz
      rw[hmc]at hz
      simp only at hz
      rw[pE k j2 x hd]at hz
      simp_all
def JE (S:kV) (i j:Nat):Prop:=∃p,zeQ S i p/\S.who p=some j
theorem zfH {S:kV} {i j:Nat} (h:Relation.TransGen (JE S) i j):∀ {k:Nat} {o:yH},fuS S k i=some o->∃m,m<k/\∃x,fuS S m j=some x:=by
 induction h with
 | single h=>obtain⟨p,h1,h2⟩:=h;grind [G5]
 | tail _ h ih =>
  intro k o hk
  obtain⟨m,hm,x,hx⟩:=ih hk
  obtain⟨p,h1,h2⟩:=h
  grind [G5]
theorem VM {S:kV} {i:Nat} (h:Relation.TransGen (JE S) i i):jI S i=none:=by
 have:∀k,fuS S k i=none:=fun k=>by
  induction k using Nat.strongRecOn with
  | _ k ih =>
   cases hk:fuS S k i with
   | none=>rfl
   | some o =>
    grind [zfH]
 simp_all[jI]
theorem zlo {S:kV} {i j:Nat} (h:JE S i j) (hj:jI S j=none):jI S i=none:=by
 cases hl:jI S i with
 | none=>rfl
 | some o =>
  obtain⟨k,hk⟩:=QI.1 hl
  obtain⟨p,h1,h2⟩:=h
  grind [G5,QI]
noncomputable def JI (S:kV) (i:Nat):j9:=(goF (kF S (jI S)) 600 (S.b0 i)).getD (S.b0 i)
noncomputable def jH (S:kV) (i:Nat):yH:=(jI S i).getD ⟨3,11,[],(JI S i).reads⟩
def zi5 (S:kV) (i:Nat):Prop:=∃b,goF (kF S (jI S)) 600 (S.b0 i)=some b
theorem pT {S:kV} {i:Nat} (he:zi5 S i) {b:j9} (hr:kM (kF S (jI S)) (S.b0 i) b) (h:b.over=true\/kF S (jI S) b.asks=none):goF (kF S (jI S)) 600 (S.b0 i)=some b/\JI S i=b:=by
 obtain⟨c,hc⟩:=he
 grind [zli,JI]
theorem zbK {S:kV} {i:Nat} (he:zi5 S i) {b:j9} (hr:kM (kF S (jI S)) (S.b0 i) b) (ho:b.over=true):jH S i=(JH b).1/\jI S i=some (JH b).1:=by
 obtain⟨h1,h2⟩:=pT he hr (.inl ho)
 have h3:jI S i=some (JH b).1:=by simp_all[vR,xF]
 simp_all[jH]
theorem zbi {S:kV} {i j:Nat} (he:zi5 S i) {b:j9} (hr:kM (kF S (jI S)) (S.b0 i) b) (ho:b.over=false) (hm:S.who b.asks=some j) {o:yH} (hj:jI S j=some o) (hk:o.kind=2):jH S i=⟨2,16,[],b.reads⟩/\jI S i=some ⟨2,16,[],b.reads⟩:=by
 have hn:kF S (jI S) b.asks=none:=by simp_all[kF]
 obtain⟨h1,h2⟩:=pT he hr (.inr hn)
 have h3:jI S i=some ⟨2,16,[],b.reads⟩:=by
  rw[vR];simp_all[xF]
 simp_all[jH]
theorem zcS {S:kV} {i j:Nat} (he:zi5 S i) {b:j9} (hr:kM (kF S (jI S)) (S.b0 i) b) (ho:b.over=false) (hm:S.who b.asks=some j) (hj:jI S j=none):jH S i=⟨3,11,[],b.reads⟩/\jI S i=none/\JI S i=b:=by
 have hn:kF S (jI S) b.asks=none:=by simp_all[kF]
 obtain⟨h1,h2⟩:=pT he hr (.inr hn)
 have h3:jI S i=none:=zlo ⟨b.asks,⟨b,hr,ho,rfl⟩,hm⟩ hj
 simp_all[jH]
theorem zdd {S:kV} {i:Nat} {o:yH} (h:jI S i=some o):o.kind=1\/o.kind=2:=by
 rw[vR]at h
 unfold xF at h
 cases hg:goF (kF S (jI S)) 600 (S.b0 i)with
 | none=>simp_all
 | some b =>
  rw[hg]at h
  simp only at h
  by_cases hov:b.over=true
  ·rw[if_pos hov]at h
   cases h
   unfold JH
   grind
  grind
theorem vJ (S:kV) (i:Nat):((jH S i).kind=3/\jI S i=none)\/(jI S i=some (jH S i)/\((jH S i).kind=1\/(jH S i).kind=2)):=by
 cases h:jI S i with
 | none=>simp_all[jH]
 | some o =>
  have:jH S i=o:=by simp_all[jH]
  rw[this]
  exact .inr ⟨rfl,zdd h⟩
noncomputable def J9 (S:kV) (W:List Nat) (p:Txt):KnV × Int:=match S.who p with
 | none=>(ZK S.fs p,1)
 | some j=>if j∈W then(⟨p,false,[]⟩,3) else if (jH S j).kind=1 then(ZK (jH S j).outs p,1) else(⟨p,false,[]⟩,(jH S j).kind)
def zhS (S:kV) (W:List Nat) (i:Nat):Prop:=∀w∈W,Relation.TransGen (JE S) w i
theorem zhS.cons {S:kV} {W:List Nat} {i j:Nat} (h:zhS S W i) (hw:JE S i j):zhS S (W++[i]) j:=fun w hw2=>by
 rcases List.mem_append.1 hw2 with h2|h2
 ·exact(h w h2).tail hw
 ·rw[List.mem_singleton.1 h2];exact .single hw
theorem zic {S:kV} {W:List Nat} {i:Nat} (hp:zhS S W i) (he:zi5 S i) {b:j9} (hr:kM (kF S (jI S)) (S.b0 i) b) (ho:b.over=false) :
  ((J9 S (W++[i]) b.asks).2=1/\kF S (jI S) b.asks=some (J9 S (W++[i]) b.asks).1)\/
  ((J9 S (W++[i]) b.asks).2=2/\jH S i=⟨2,16,[],b.reads⟩/\kF S (jI S) b.asks=none)\/
  ((J9 S (W++[i]) b.asks).2=3/\jH S i=⟨3,11,[],b.reads⟩/\(jI S i=none/\JI S i=b)/\kF S (jI S) b.asks=none):=by
 have hno:∀j,S.who b.asks=some j->jI S j=none->kF S (jI S) b.asks=none:=fun j h1 h2=>by
  simp_all[kF]
 unfold J9
 cases hm:S.who b.asks with
 | none=>simp_all[kF]
 | some j =>
  have hw:JE S i j:=⟨b.asks,⟨b,hr,ho,rfl⟩,hm⟩
  simp only
  by_cases hj:j∈W++[i]
  ·rw[if_pos hj]
   have hl:jI S j=none:=by
    rcases List.mem_append.1 hj with h|h
    ·exact VM ((hp j h).tail hw)
    ·have e:=List.mem_singleton.1 h
     subst e
     exact VM (.single hw)
   obtain⟨h1,h2,h3⟩:=zcS he hr ho hm hl
   simp_all
  ·rw[if_neg hj]
   rcases vJ S j with⟨hk,hl⟩|⟨hl,hk|hk⟩
   ·rw[if_neg (by omega)]
    grind [zcS]
   ·simp_all[kF]
   ·rw[if_neg (by omega)]
    refine .inr (.inl ⟨hk,(zbi he hr ho hm hl hk).1,?_⟩)
    simp_all[kF]
structure BdV where
 ov:List (Nat × yH)
 wt:List (Nat × Txt)
structure WP (S:kV) (n:Nat) (W:List Nat) (x:BdV):Prop where
 fin:∀p∈x.ov,p.1<n/\p.2=jH S p.1
 nd:(x.ov.map Prod.fst).Nodup
 st:∀p∈x.ov,jI S p.1=none->x.wt.find? (fun q=>decide (q.1=p.1))=some (p.1,(JI S p.1).asks)/\∃m,S.who (JI S p.1).asks=some m/\(m∈x.ov.map Prod.fst\/m∈W)
 wnd:W.Nodup
 wn:∀w∈W,w<n/\w∉x.ov.map Prod.fst
 wt:∀q∈x.wt,q.1∈x.ov.map Prod.fst\/q.1∈W
 cl:∀p∈x.ov,∀j,JE S p.1 j->j∈x.ov.map Prod.fst\/j∈W
def CN (S:kV) (x x':BdV) (i:Nat):Prop:=∀j,j∈x'.ov.map Prod.fst->j∈x.ov.map Prod.fst\/j=i\/Relation.TransGen (JE S) i j
def zl2 (S:kV) (x x':BdV) (p:Txt):Prop:=∀j,j∈x'.ov.map Prod.fst->j∈x.ov.map Prod.fst\/∃m,S.who p=some m/\(j=m\/Relation.TransGen (JE S) m j)
theorem CN.refl (S:kV) (x:BdV) (i:Nat):CN S x x i:=fun _ h=>.inl h
theorem zl2.refl (S:kV) (x:BdV) (p:Txt):zl2 S x x p:=fun _ h=>.inl h
theorem CN.step {S:kV} {x y z:BdV} {i:Nat} {p:Txt} (h:CN S x y i) (h2:zl2 S y z p) (ha:zeQ S i p):CN S x z i:=fun j hj=>by
 rcases h2 j hj with h3|⟨m,hm,h3⟩
 ·exact h j h3
 ·rcases h3 with rfl|h3
  ·exact .inr (.inr (.single ⟨p,ha,hm⟩))
  ·exact .inr (.inr (.trans (.single ⟨p,ha,hm⟩) h3))
theorem CN.done {S:kV} {x y:BdV} {i:Nat} (h:CN S x y i) (o:yH) (wt:List (Nat × Txt)):CN S x ⟨y.ov++[(i,o)],wt⟩ i:=fun j hj=>by
 rw[List.map_append,List.mem_append]at hj
 rcases hj with hj|hj
 ·exact h j hj
 simp_all
def XW (S:kV) (i:Nat) (L:List Nat) (b:j9):Prop:=∀c,kM (kF S (jI S)) (S.b0 i) c->c.over=false->kM (kF S (jI S)) b c\/∀j,S.who c.asks=some j->j∈L
theorem XW.start (S:kV) (i:Nat) (L:List Nat):XW S i L (S.b0 i):=fun _ h _=>.inl h
theorem XW.mono {S:kV} {i:Nat} {L L':List Nat} {b:j9} (h:XW S i L b) (hL:∀j∈L,j∈L'):XW S i L' b:=fun c h1 h2=>(h c h1 h2).imp_right fun h j hj=>hL j (h j hj)
theorem XW.step {S:kV} {i:Nat} {L:List Nat} {b:j9} {k:KnV} (h:XW S i L b) (hk:kF S (jI S) b.asks=some k) (hm:∀j,S.who b.asks=some j->j∈L):XW S i L (yN k b).2:=fun c h1 h2=>by
 rcases h c h1 h2 with h3|h3
 ·cases h3 with
  | refl=>exact .inr hm
  | step g1 g2 g3 =>
   simp_all
 simp_all
theorem XW.over {S:kV} {i:Nat} {L:List Nat} {b:j9} (h:XW S i L b) (ho:b.over=true):∀j,JE S i j->j∈L:=fun j ⟨p,⟨c,h1,h2,h3⟩,h4⟩=>by
 rcases h c h1 h2 with h5|h5
 ·cases h5 with
  | refl=>simp_all
  | step g1 _ _=>simp_all
 simp_all
theorem XW.stop {S:kV} {i:Nat} {L:List Nat} {b:j9} (h:XW S i L b) (hn:kF S (jI S) b.asks=none) (hm:∀j,S.who b.asks=some j->j∈L):∀j,JE S i j->j∈L:=fun j ⟨p,⟨c,h1,h2,h3⟩,h4⟩=>by
 rcases h c h1 h2 with h5|h5
 ·cases h5 with
  | refl=>simp_all
  | step _ g2 _=>simp_all
 simp_all
theorem WP.begin {S:kV} {n:Nat} {W:List Nat} {x:BdV} {i:Nat} (h:WP S n W x) (hi:i<n) (hW:i∉W) (hx:i∉x.ov.map Prod.fst):WP S n (W++[i]) x where
 fin:=h.fin
 nd:=h.nd
 st:=fun p hp hl=>by
  obtain⟨h1,m,h2,h3⟩:=h.st p hp hl
  grind
 wnd:=by
  rw[List.nodup_append]
  exact⟨h.wnd,by simp,fun a ha b hb=>by grind⟩
 wn:=fun w hw=>by
  rcases List.mem_append.1 hw with hw|hw
  ·exact h.wn w hw
  simp_all
 wt:=fun q hq=>(h.wt q hq).imp_right fun h=>List.mem_append_left _ h
 cl:=fun p hp j hj=>(h.cl p hp j hj).imp_right fun h=>List.mem_append_left _ h
theorem WP.done {S:kV} {n:Nat} {W:List Nat} {x:BdV} {i:Nat} (h:WP S n (W++[i]) x) (wt':List (Nat × Txt)) (h1:∀j,j≠i->wt'.find? (fun q=>decide (q.1=j))=x.wt.find? fun q=>decide (q.1=j))
  (h2:jI S i=none->wt'.find? (fun q=>decide (q.1=i))=some (i,(JI S i).asks)/\∃m,S.who (JI S i).asks=some m/\(m∈x.ov.map Prod.fst\/m∈W++[i])) (h3:∀q∈wt',q.1∈x.ov.map Prod.fst\/q.1∈W++[i]) (h4:∀j,JE S i j->j∈x.ov.map Prod.fst++(W++[i])):WP S n W ⟨x.ov++[(i,jH S i)],wt'⟩:=by
 obtain⟨hi,hx⟩:=h.wn i (by simp)
 have hnd:=h.wnd
 rw[List.nodup_append]at hnd
 have hmv:∀m,(m∈x.ov.map Prod.fst\/m∈W++[i])->m∈(x.ov++[(i,jH S i)]).map Prod.fst\/m∈W:=fun m hm=>by
  grind
 exact {
  fin:=fun p hp=>by
   rcases List.mem_append.1 hp with hp|hp
   ·exact h.fin p hp
   simp_all
  nd:=by
   rw[List.map_append,List.nodup_append]
   exact⟨h.nd,by simp,fun a ha b hb e=>hx (by simp_all)⟩
  st:=fun p hp hl=>by
   rcases List.mem_append.1 hp with hp|hp
   ·obtain⟨g1,m,g2,g3⟩:=h.st p hp hl
    have hne:p.1≠i:=fun e=>hx (e▸List.mem_map.2 ⟨p,hp,rfl⟩)
    simp_all
   grind
  wnd:=hnd.1
  wn:=fun w hw=>by
   obtain⟨g1,g2⟩:=h.wn w (List.mem_append_left _ hw)
   simp_all
  wt:=fun q hq=>hmv q.1 (h3 q hq)
  cl:=fun p hp j hj=>by
   rcases List.mem_append.1 hp with hp|hp
   ·exact hmv j (h.cl p hp j hj)
   simp_all }
theorem WP.room {S:kV} {n:Nat} {W:List Nat} {x:BdV} {i:Nat} (h:WP S n W x) (hi:i<n) (hW:i∉W):W.length<n:=by
 have h1:(W++[i]).Nodup:=by
  rw[List.nodup_append]
  exact⟨h.wnd,by simp,fun a ha b hb=>by grind⟩
 have h2:=List.Nodup.length_le_of_subset (l₂:=List.range n) h1 fun w hw=>by
  rcases List.mem_append.1 hw with hw|hw
  ·exact List.mem_range.2 (h.wn w hw).1
  simp_all
 grind
end
end Go.Proofs.YtfkcpballfhddaaGreatDoor
