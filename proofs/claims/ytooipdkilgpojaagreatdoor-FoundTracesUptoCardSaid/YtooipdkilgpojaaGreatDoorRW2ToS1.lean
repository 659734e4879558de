/- The document's tool in great steps, and in small ones: plain. No condition beyond each theorem's own. -/
import Derived.Test.YtooipdkilgpojaaGreatDoorK20ToRW0
import Derived.Test.YtooipdkilgpojaaGreatDoorB0
import Derived.Test.YtooipdkilgpojaaGreatDoorL0
set_option linter.unusedSimpArgs false
set_option linter.unusedVariables false
set_option linter.unusedSectionVars false
section
set_option maxRecDepth 100000
namespace Go.Proofs.YtooipdkilgpojaaGreatDoor
open Go Go.Ab
open Classical
variable [Sel] [SelPow] [SelMax]
def y7 (kn:List KnV) (p:Txt) (s:StV):StV × KnV :=
 if p∉s.asked∧s.asked.length=500 then(yZ 6 s,kn0)
 else
  let s1:StV:=if p∈s.asked then s else { s with asked:=s.asked++[p] }
  match zQ kn p with
  | some k=>(s1,k)
  | none=>({ s1 with stop:=⟨1,p,[],0⟩ },kn0)
def ZS (rec:Txt→StV→List Txt→StV × List Txt) (w:Txt):List Txt→StV→List Txt→StV × List Txt
 | [],s,d=>(s,d)
 | x::r,s,d=>if s.stop.kind≠0 then(s,d) else match zR x with
  | [a,q]=>if a≠w∨yV q=false then ZS rec w r (yP (x++[10]) s) d
   else if q∈d then ZS rec w r s d
   else ZS rec w r (rec q s d).1 (rec q s d).2
  | _=>ZS rec w r (yP (x++[10]) s) d
def zdm (kn:List KnV) (w:Txt):Nat→Txt→StV→List Txt→StV × List Txt
 | 0,_,s,d=>(s,d)
 | n+1,p,s,d =>
  let s1:=(y7 kn p s).1
  let k:=(y7 kn p s).2
  if s1.stop.kind≠0 then(s1,d++[p])
  else if k.is=false then(yZ 10 s1,d++[p])
  else ZS (zdm kn w n) w (z7 k.data) s1 (d++[p])
structure CG (s:StV) (d:List Txt):Prop where
 stop:s.stop=do0
 nod:d.Nodup
 sub:∀p∈d,p∈s.asked
 len:s.asked.length≤500
theorem CG.dlen {s:StV} {d:List Txt} (h:CG s d):d.length≤500 :=
 Nat.le_trans (List.Nodup.length_le_of_subset h.nod h.sub) h.len
theorem zjM (env:List (Txt × Txt)) (kn:List KnV) (p:Txt) (co:CoV) (c:CfV) (h0:c.st.stop.kind=0) (hl:c.st.asked.length≤500) :
  (∃k,y7 kn p c.st=(if p∈c.st.asked then c.st else { c.st with asked:=c.st.asked++[p] },k)∧zQ kn p=some k∧(y7 kn p c.st).1.stop=c.st.stop∧p∈(y7 kn p c.st).1.asked∧(∀q∈c.st.asked,q∈(y7 kn p c.st).1.asked)∧(y7 kn p c.st).1.asked.length≤500∧
   Q7 env kn (VX p co c) (coS co k { c with st:=(y7 kn p c.st).1 }))∨
  ((y7 kn p c.st).1.stop.kind≠0∧∃td',Q7 env kn (VX p co c) ⟨td',(y7 kn p c.st).1,c.done⟩):=by
 unfold y7 VX
 by_cases hin:p∈c.st.asked
 ·simp only[hin,if_true,not_true,false_and,if_false]
  cases hf:zQ kn p with
  | some k =>
   left
   refine⟨k,rfl,rfl,rfl,hin,fun q h=>h,hl,?_⟩
   refine .step h0 ?_
   simp only[J6,hf]
   exact .refl _
  | none =>
   right
   refine⟨by simp,c.td,?_⟩
   refine .step h0 ?_
   simp only[J6,hf]
   exact .refl _
 ·simp only[hin,if_false,not_false_iff,true_and]
  by_cases h5:c.st.asked.length=500
  ·simp only[h5,if_true,Nat.le_refl]
   exact .inr ⟨by simp[yZ],c.td,.refl _⟩
  ·have h5':¬500≤c.st.asked.length:=by omega
   simp only[h5,h5',if_false]
   cases hf:zQ kn p with
   | some k =>
    left
    refine⟨k,rfl,rfl,rfl,by simp,fun q h=>by simp[h],by simp;omega,?_⟩
    refine .step h0 ?_
    simp only[J6,hf]
    exact .refl _
   | none =>
    right
    refine⟨by simp,c.td,?_⟩
    refine .step h0 ?_
    simp only[J6,hf]
    exact .refl _
theorem zk6 {t:Txt} {s:StV} {d:List Txt} (h:CG s d):(yP t s).asked=s.asked∧((yP t s).stop.kind=0→CG (yP t s) d):=by
 unfold yP
 split
 ·exact⟨rfl,fun e=>by simp[yZ]at e⟩
 ·exact⟨rfl,fun _=>⟨h.stop,h.nod,h.sub,h.len⟩⟩
structure zmT (env:List (Txt × Txt)) (kn:List KnV) (c:CfV) (td:List TdV) (d:List Txt) (r:StV × List Txt):Prop where
 pre:d <+: r.2
 go:r.1.stop.kind=0→CG r.1 r.2∧Q7 env kn c ⟨td,r.1,r.2⟩
 stop:r.1.stop.kind≠0→∃td' d',Q7 env kn c ⟨td',r.1,d'⟩
theorem uN {env:List (Txt × Txt)} {kn:List KnV} {w:Txt} {n:Nat} (rec:Txt→StV→List Txt→StV × List Txt)
  (hrec:∀(p:Txt) (s:StV) (d:List Txt) (td:List TdV),CG s d→p∉d→501-d.length≤n→zmT env kn (zb0 p w ⟨td,s,d⟩) td (d++[p]) (rec p s d)) :
  ∀(l:List Txt) (s:StV) (d:List Txt) (td:List TdV),CG s d→501-d.length≤n→zmT env kn ⟨(l.map fun x=>.line x w)++td,s,d⟩ td d (ZS rec w l s d)
 | [],s,d,td,hi,hn=>⟨List.prefix_refl _,fun _=>⟨hi,by simpa[ZS]using .refl _⟩,fun h=>by simp[ZS,hi.stop,do0]at h⟩
 | x::r,s,d,td,hi,hn=>by
  have hk0:s.stop.kind=0:=by rw[hi.stop];rfl
  have h0:¬s.stop.kind≠0:=by simp[hk0]
  have hstep:∀c',D4 x w ⟨(r.map fun x=>.line x w)++td,s,d⟩=c'→Q7 env kn ⟨((x::r).map fun x=>.line x w)++td,s,d⟩ c':=fun c' e=>by
   subst e
   exact .step hk0 (.refl _)
    -- a line is added
  have hadd:D4 x w ⟨(r.map fun x=>.line x w)++td,s,d⟩=⟨(r.map fun x=>.line x w)++td,yP (x++[10]) s,d⟩→zmT env kn ⟨((x::r).map fun x=>.line x w)++td,s,d⟩ td d (ZS rec w r (yP (x++[10]) s) d):=by
   intro e
   have hr:=hstep _ e
   by_cases hk:(yP (x++[10]) s).stop.kind=0
   ·have ih:=uN rec hrec r _ d td ((zk6 hi).2 hk) hn
    exact⟨ih.pre,fun h=>⟨(ih.go h).1,hr.trans (ih.go h).2⟩,fun h=>by obtain⟨td',d',h1⟩:=ih.stop h;exact⟨td',d',hr.trans h1⟩⟩
   ·have hv:ZS rec w r (yP (x++[10]) s) d=(yP (x++[10]) s,d):=by
     cases r with
     | nil=>rfl
     | cons y r=>rw[ZS,if_pos hk]
    rw[hv]
    exact⟨List.prefix_refl _,fun h=>absurd h hk,fun _=>⟨_,_,hr⟩⟩
  rw[ZS,if_neg h0]
  unfold D4 at hadd hstep
  generalize zR x=ws at hadd hstep ⊢
  rcases ws with _|⟨a,_|⟨q,_|⟨z,l⟩⟩⟩
  ·exact hadd rfl
  ·exact hadd rfl
  ·simp only at hadd hstep ⊢
   by_cases h1:a≠w∨yV q=false
   ·rw[if_pos h1];exact hadd (if_pos h1)
   rw[if_neg h1]at hstep ⊢
   by_cases h2:q∈d
   ·rw[if_pos h2]at hstep ⊢
    have hr:=hstep _ rfl
    have ih:=uN rec hrec r s d td hi hn
    exact⟨ih.pre,fun h=>⟨(ih.go h).1,hr.trans (ih.go h).2⟩,fun h=>by obtain⟨td',d',h1⟩:=ih.stop h;exact⟨td',d',hr.trans h1⟩⟩
   ·rw[if_neg h2]at hstep ⊢
    have hr:=hstep _ rfl
    have hs:=hrec q s d ((r.map fun x=>.line x w)++td) hi h2 hn
    have hpl:=hs.pre.length_le
    simp only[List.length_append,List.length_cons,List.length_nil]at hpl
    have hpd:d <+: (rec q s d).2:=(List.prefix_append d [q]).trans hs.pre
    by_cases hk:(rec q s d).1.stop.kind=0
    ·obtain⟨g1,g2⟩:=hs.go hk
     have ih:=uN rec hrec r (rec q s d).1 (rec q s d).2 td g1 (by omega)
     exact⟨hpd.trans ih.pre,fun h=>⟨(ih.go h).1,hr.trans (g2.trans (ih.go h).2)⟩,fun h=>by obtain⟨td',d',h1⟩:=ih.stop h;exact⟨td',d',hr.trans (g2.trans h1)⟩⟩
    ·obtain⟨td',d',g1⟩:=hs.stop hk
     have hv:ZS rec w r (rec q s d).1 (rec q s d).2=((rec q s d).1,(rec q s d).2):=by
      cases r with
      | nil=>rfl
      | cons y r=>rw[ZS,if_pos hk]
     rw[hv]
     exact⟨hpd,fun h=>absurd h hk,fun _=>⟨td',d',hr.trans g1⟩⟩
  ·exact hadd rfl
theorem zco {env:List (Txt × Txt)} {kn:List KnV} {w:Txt}:∀(n:Nat) (p:Txt) (s:StV) (d:List Txt) (td:List TdV),CG s d→p∉d→501-d.length≤n→zmT env kn (zb0 p w ⟨td,s,d⟩) td (d++[p]) (zdm kn w n p s d)
 | 0,p,s,d,td,hi,hp,hn=>by have:=hi.dlen;omega
 | n+1,p,s,d,td,hi,hp,hn=>by
  have hk0:s.stop.kind=0:=by rw[hi.stop];rfl
  have ha:=zjM env kn p (.there (.scan w)) ⟨td,s,d++[p]⟩ hk0 hi.len
  have hsc:zb0 p w ⟨td,s,d⟩=VX p (.there (.scan w)) ⟨td,s,d++[p]⟩:=rfl
  rw[hsc]
  rw[zdm]
  rcases ha with⟨k,h1,h2,h3,h4,h5,h6,h7⟩|⟨h1,td',h2⟩
  ·simp only at h1 h3 h4 h5 h6 h7
   have hk:(y7 kn p s).2=k:=by rw[h1]
   have hst:¬(y7 kn p s).1.stop.kind≠0:=by rw[h3,hk0];simp
   rw[if_neg hst,hk]
   have hi2:CG (y7 kn p s).1 (d++[p]):=by
    refine⟨h3.trans hi.stop,?_,?_,h6⟩
    ·refine List.nodup_append.2 ⟨hi.nod,by simp,fun a ha c hc=>?_⟩
     simp only[List.mem_singleton]at hc
     subst hc
     exact fun e=>hp (e▸ha)
    ·intro q hq
     rcases List.mem_append.1 hq with hq|hq
     ·exact h5 q (hi.sub q hq)
     ·rw[List.mem_singleton.1 hq];exact h4
   cases his:k.is with
   | false =>
    rw[if_pos rfl]
    refine⟨List.prefix_refl _,fun e=>by simp[yZ]at e,fun _=>⟨td,d++[p],?_⟩⟩
    have:coS (.there (.scan w)) k ⟨td,(y7 kn p s).1,d++[p]⟩=⟨td,yZ 10 (y7 kn p s).1,d++[p]⟩:=by
     simp[coS,his,CfV.map]
    rw[←this];exact h7
   | true =>
    rw[if_neg (by decide)]
    have:coS (.there (.scan w)) k ⟨td,(y7 kn p s).1,d++[p]⟩=⟨((z7 k.data).map fun x=>.line x w)++td,(y7 kn p s).1,d++[p]⟩:=by
     simp[coS,his,thS]
    rw[this]at h7
    have ih:=uN (env:=env) (kn:=kn) (w:=w) (n:=n) (zdm kn w n) (fun p s d td a b c=>zco n p s d td a b c) (z7 k.data) (y7 kn p s).1 (d++[p]) td hi2 (by simp only[List.length_append,List.length_cons,List.length_nil];omega)
    exact⟨ih.pre,fun h=>⟨(ih.go h).1,h7.trans (ih.go h).2⟩,fun h=>by obtain⟨td',d',h1⟩:=ih.stop h;exact⟨td',d',h7.trans h1⟩⟩
  ·simp only at h1 h2
   rw[if_pos h1]
   exact⟨List.prefix_refl _,fun e=>absurd e h1,fun _=>⟨td',d++[p],h2⟩⟩
def ccR (r:RunV):Nat:=r.todo.countP isC
structure Ef (b:Bool) (r r':RunV):Prop where
 en:r'.env=r.env
 cc:ccR r'=ccR r
 ov:r'.over=r.over∨(r'.over.kind=4∧r'.over.why≠0)∨(b=true∧r'.over.kind=2∧r'.over.why=0)
 wo:r.waits=false→r'.waits=true→r'.over=r.over
theorem Ef.refl {b:Bool} (r:RunV):Ef b r r:=⟨rfl,rfl,.inl rfl,fun _ _=>rfl⟩
theorem Ef.same {b:Bool} {r r':RunV} (h1:r'.env=r.env) (h2:r'.todo=r.todo) (h3:r'.over=r.over):Ef b r r':=⟨h1,by rw[ccR,h2];rfl,.inl h3,fun _ _=>h3⟩
theorem Ef.fail {b:Bool} (e:Int) (r:RunV) (he:e≠0:=by decide):Ef b r (wC e r):=⟨rfl,rfl,.inr (.inl ⟨rfl,he⟩),fun h1 h2=>by rw[show (wC e r).waits=r.waits from rfl,h1]at h2;cases h2⟩
theorem Ef.add {b:Bool} (t:Txt) (r:RunV):Ef b r (wW t r):=by
 unfold wW
 split
 ·exact .fail _ _
 ·exact .same rfl rfl rfl
theorem Ef.lines {b:Bool} (t:List Txt) (r:RunV):Ef b r (kS t r):=by
 have h:=Ef.add (b:=b) (t.flatMap (·++[10])) { r with buf:=[] }
 exact⟨h.en,h.cc,h.ov,h.wo⟩
theorem zhk (w:Txt) (l:List Txt):(l.map fun s=>TdV.line s w).countP isC=0:=by
 rw[List.countP_eq_zero]
 intro t ht
 obtain⟨s,_,rfl⟩:=List.mem_map.1 ht
 simp[isC]
theorem Ef.co {b:Bool} (k:CoV) (x:KnV) (r:RunV):Ef b r (coR k x r):=by
 cases hx:x.is with
 | false =>
  cases k with
  | tr=>rw[show coR .tr x r=r by simp[coR,hx]];exact .refl _
  | there t=>rw[show coR (.there t) x r=wC 10 r by simp[coR,hx]];exact .fail _ _
 | true =>
  cases k with
  | tr=>rw[show coR .tr x r=wW x.data r by simp[coR,hx]];exact .add _ _
  | there t=>cases t with
   | add=>rw[show coR (.there .add) x r=wW x.data r by simp[coR,hx,thR]];exact .add _ _
   | scan w =>
    rw[show coR (.there (.scan w)) x r={ r with todo:=r.todo++(z7 x.data).reverse.map fun s=>.line s w } by simp[coR,hx,thR]]
    exact⟨rfl,by have:=zhk w (z7 x.data).reverse;simp only[ccR,List.countP_append,this,Nat.add_zero],.inl rfl,fun _ _=>rfl⟩
theorem Ef.ask {b:Bool} (p:Txt) (k:CoV) (r:RunV):Ef b r (Q6 p k r):=by
 unfold Q6
 split
 ·exact .co _ _ _
 ·split
  ·exact .fail _ _
  ·exact⟨rfl,by simp[ccR,isC],.inl rfl,fun _ _=>rfl⟩
theorem Ef.scan {b:Bool} (p w:Txt) (r:RunV):Ef b r (ZL p w r):=by
 have h:=Ef.ask (b:=b) p (.there (.scan w)) { r with seen:=r.seen++[p] }
 exact⟨h.en,h.cc,h.ov,h.wo⟩
theorem Ef.line {b:Bool} (s w:Txt) (r:RunV):Ef b r (Z1 s w r):=by
 unfold Z1
 split
 ·split
  ·exact .add _ _
  split
  ·exact .refl _
  ·exact .scan _ _ _
 ·exact .add _ _
theorem Ef.turn {b:Bool} (n a:Txt) (r:RunV):Ef b r (wK n a r):=by
 unfold wK
 split
 ·exact .lines _ _
 split
 ·exact .lines _ _
 split
 ·exact .same rfl rfl rfl
 split
 ·exact .same rfl rfl rfl
 split
 ·exact .lines _ _
 ·exact .refl _
theorem Ef.cmd (c:CmdV) (r:RunV):Ef true r (doR c r):=by
 unfold doR
 simp only
 split
 ·exact .ask _ _ _
 split
 ·exact .ask _ _ _
 split
 ·have h:=Ef.scan (b:=true) (c.words.getD 1 []) (c.words.getD 2 []) { r with seen:=[] }
  exact⟨h.en,h.cc,h.ov,h.wo⟩
 split
 ·exact .add _ _
 split
 ·split
  ·exact .add _ _
  ·exact .fail _ _
 split
 ·exact⟨rfl,rfl,.inr (.inr ⟨rfl,rfl,rfl⟩),fun h1 h2=>by rw[show (RunV.waits _)=r.waits from rfl,h1]at h2;cases h2⟩
 split
 ·split
  ·exact .refl _
  ·exact .fail _ _
 split
 ·exact .fail _ _
 ·exact .turn _ _ _
structure zg9 (r r':RunV):Prop where
 en:r'.env=r.env
 cc:ccR r'≤ccR r
 ov:r'.over=r.over∨r'.over=⟨3,[],[],0⟩∨(r'.over.kind=4∧r'.over.why≠0)∨(r'.over.kind=2∧r'.over.why=0∧ccR r'<ccR r)
 wo:r.waits=false→r'.waits=true→r'.over=r.over
theorem zgh (r:RunV):zg9 r (QL r):=by
 rcases List.eq_nil_or_concat r.todo with ht|⟨l,t,ht⟩
 ·rw[KT ht]
  exact⟨rfl,Nat.le_refl _,.inr (.inl rfl),fun h1 h2=>by rw[show (RunV.waits _)=r.waits from rfl,h1]at h2;cases h2⟩
 ·rw[List.concat_eq_append]at ht
  rw[KV ht]
  have hc:ccR r=ccR { r with todo:=l }+if isC t=true then 1 else 0:=by
   simp only[ccR,ht,List.countP_append,List.countP_cons,List.countP_nil];omega
  have go:∀ {r':RunV},Ef false { r with todo:=l } r'→zg9 r r':=fun h=>by
   refine⟨h.en,by rw[h.cc];omega,?_,h.wo⟩
   rcases h.ov with h|h|⟨h,_⟩
   ·exact .inl h
   ·exact .inr (.inr (.inl h))
   ·cases h
  cases t with
  | cmd c =>
   have h:=Ef.cmd c { r with todo:=l }
   have hc':ccR r=ccR { r with todo:=l }+1:=hc
   refine⟨h.en,?_,?_,h.wo⟩
   ·have:=h.cc;simp only[tdR];omega
   ·rcases h.ov with h1|h1|⟨_,h1,h9⟩
    ·exact .inl h1
    ·exact .inr (.inr (.inl h1))
    ·refine .inr (.inr (.inr ⟨h1,h9,?_⟩))
     have:=h.cc;simp only[tdR];omega
  | line s w=>exact go (.line _ _ _)
  | ans k p=>exact go (.co _ _ _)
def OV (r:RunV):Prop:=(r.over=do0∨(r.over.kind=2∧r.over.why=0)∨r.over=⟨3,[],[],0⟩∨(r.over.kind=4∧r.over.why≠0))∧(r.waits=true→r.over=do0)
theorem OV.zero {r:RunV} (h:OV r) (h0:r.over.kind=0):r.over=do0:=by
 rcases h.1 with h|⟨h,_⟩|h|⟨h,_⟩
 ·exact h
 ·rw[h0]at h;cases h
 ·rw[h]at h0;cases h0
 ·rw[h0]at h;cases h
theorem zg9.ovk {r r':RunV} (h:zg9 r r') (h0:OV r) (hk:r.over.kind=0) (hw:r.waits=false):OV r':=by
 have hd:=h0.zero hk
 refine⟨?_,fun e=>(h.wo hw e).trans hd⟩
 rcases h.ov with h1|h1|h1|⟨h1,h9,_⟩
 ·exact .inl (h1.trans hd)
 ·exact .inr (.inr (.inl h1))
 ·exact .inr (.inr (.inr h1))
 ·exact .inr (.inl ⟨h1,h9⟩)
theorem zaK {r:RunV} (h:¬kL r=true):r.over.kind=0∧r.waits=false:=by
 unfold kL at h
 simpa using h
theorem zaM (env:List (Txt × Txt)) {kn:List KnV} (wr:List DoV):∀(n:Nat) {r r':RunV},runN n r=some r'→JF r→OV r→r.env=env→r.known <+: kn→
  Q7 env kn (jV wr r) (jV wr r')∧OV r'∧r'.env=env∧ccR r'≤ccR r∧(r.over.kind=0→r'.over.kind=2→ccR r'<ccR r)
 | 0,r,r',h,_,_,_,_=>by cases h
 | n+1,r,r',h,hi,ho,he,hk=>by
  rw[runN]at h
  by_cases hs:kL r=true
  ·rw[if_pos hs]at h
   cases h
   exact⟨.refl _,ho,he,Nat.le_refl _,fun h1 h2=>by rw[h1]at h2;cases h2⟩
  ·rw[if_neg hs]at h
   obtain⟨h0,hw⟩:=zaK hs
   have hse:=zgh r
   have hst:=gV hi (by simpa using hs)
   obtain⟨g1,g2,g3,g4,g5⟩:=zaM env wr n h hst.1 (hse.ovk ho h0 hw) (hse.en.trans he) (by rw[hst.2.2];exact hk)
   refine⟨(zgD env wr hi he hk hw (ho.zero h0)).trans g1,g2,g3,Nat.le_trans g4 hse.cc,fun _ h2=>?_⟩
   have stuck:(QL r).over.kind≠0→r'=QL r:=fun h1=>by
    have hst2:kL (QL r)=true:=by simp[kL,h1]
    cases n with
    | zero=>cases h
    | succ n=>rw[runN,if_pos hst2]at h;cases h;rfl
   rcases hse.ov with h1|h1|⟨h1,_⟩|⟨h1,_,h3⟩
   ·exact Nat.lt_of_lt_of_le (g5 (by rw[h1];exact h0) h2) hse.cc
   ·rw[stuck (by rw[h1];decide),h1]at h2;cases h2
   ·rw[stuck (by rw[h1];decide),h1]at h2;cases h2
   ·omega
theorem p9 {r:RunV} (h:kL r=true):kI r=r:=by
 unfold kI
 rw[runN,if_pos h];rfl
structure AtR (env:List (Txt × Txt)) (c0:CfV) (kn:List KnV) (wr:List DoV) (r:RunV):Prop where
 inv:JF r
 ov:OV r
 en:r.env=env
 kno:r.known=kn
 runs:∀kn',kn <+: kn'→Q7 env kn' c0 (jV wr r)
theorem AtR.settle {env:List (Txt × Txt)} {c0:CfV} {kn:List KnV} {wr:List DoV} {r:RunV} (h:AtR env c0 kn wr r):AtR env c0 kn wr (kI r)∧ccR (kI r)≤ccR r∧(r.over.kind=0→(kI r).over.kind=2→ccR (kI r)<ccR r):=by
 obtain⟨h1,h2,h3,h4⟩:=yW h.inv
 have hr:=fun kn' (hk:kn <+: kn')=>zaM env wr _ h1 h.inv h.ov h.en (kn:=kn') (by rw[h.kno];exact hk)
 obtain⟨_,g2,g3,g4,g5⟩:=hr kn (List.prefix_refl _)
 exact⟨⟨h2,g2,g3,h4.trans h.kno,fun kn' hk=>(h.runs kn' hk).trans (hr kn' hk).1⟩,g4,g5⟩
structure JB (env:List (Txt × Txt)) (c0:CfV) (kn:List KnV) (wr:List DoV) (r:RunV) (d:DoV):Prop where
 at_:AtR env c0 kn wr r
 stops:kL r=true
 no2:r.over.kind≠2
 waits:d.kind=1↔r.waits=true
 asks:r.waits=true→d=⟨1,r.asks,[],0⟩
 over:r.waits=false→d=r.over
 ref:∃c,Q7 env kn c0 c∧c.st.stop=d∧c.st.stop.kind≠0∧c.st.wrote=wr
theorem AtR.next {env:List (Txt × Txt)} {c0:CfV} {kn:List KnV} {wr:List DoV} {r:RunV} (h:AtR env c0 kn wr r) (h0:r.over.kind≠2) :
  ((w9 r).1.kind=2∧AtR env c0 kn (wr++[(w9 r).1]) (w9 r).2∧ccR (w9 r).2<ccR r∧(w9 r).2.over.kind=0)∨JB env c0 kn wr (w9 r).2 (w9 r).1:=by
 obtain⟨hs,hc,hc2⟩:=h.settle
 have hst:=(yW h.inv).2.2.1
 obtain⟨s,hse⟩:∃s,s=kI r:=⟨_,rfl⟩
 have hn:w9 r=(if s.waits=true then(⟨1,s.asks,[],0⟩,s) else(s.over,if s.over.kind=2 then { s with over:=do0 } else s)):=by rw[hse];rfl
 have hr0:s.over.kind=2→r.over.kind=0:=fun h2=>by
  apply Classical.byContradiction
  intro h3
  have:kL r=true:=by simp[kL,h3]
  rw[hse,p9 this]at h2
  exact h0 h2
 rw[←hse]at hs hc hc2 hst
 rw[hn]
 by_cases hw:s.waits=true
 ·rw[if_pos hw]
  have ho:=hs.ov.2 hw
  rcases hs.inv with⟨_,h2⟩|⟨l,k,p,e,h2,h3,h4,_⟩
  ·rw[hw]at h2;cases h2
  ·obtain⟨g1,g2,g3⟩:=h4 hw
   refine .inr ⟨hs,hst,by rw[ho];decide,by simp[hw],fun _=>rfl,fun e=>(by rw[hw]at e;cases e),?_⟩
   have htd:(jV wr s).td=.ans k p::l.reverse:=by simp[jV,e]
   have hso:(jV wr s).st.stop=do0:=by simp[jV,ho,do0]
   refine⟨_,(hs.runs kn (List.prefix_refl _)).trans (.step (by rw[hso];rfl) (.refl _)),?_⟩
   have hf:zQ kn p=none:=by rw[←hs.kno];exact g2
   simp only[J6,htd,hf,CfV.map,g1]
   exact⟨trivial,by decide,by simp[jV,ho,do0]⟩
 ·rw[if_neg hw]
  have hw':s.waits=false:=by simpa using hw
  have hk0:s.over.kind≠0:=by
   unfold kL at hst
   simpa[hw']using hst
  by_cases h2:s.over.kind=2
  ·rw[if_pos h2]
   refine .inl ⟨h2,⟨?_,⟨.inl rfl,fun _=>rfl⟩,hs.en,hs.kno,fun kn' hk=>?_⟩,hc2 (hr0 h2) h2,rfl⟩
   ·exact hs.inv.of_same rfl rfl rfl rfl rfl rfl
   ·have:=hs.runs kn' hk
    have e:jV (wr++[s.over]) { s with over:=do0 }=jV wr s:=by simp[jV,h2,do0]
    rw[e];exact this
  ·rw[if_neg h2]
   refine .inr ⟨hs,hst,h2,?_,fun e=>absurd e hw,fun _=>rfl,jV wr s,hs.runs kn (List.prefix_refl _),by simp[jV,h2],by simpa[jV,h2]using hk0,by simp[jV,h2]⟩
   constructor
   ·intro e1
    rcases hs.ov.1 with h|⟨h,_⟩|h|⟨h,_⟩
    ·rw[h]at e1;cases e1
    ·simp only at e1;rw[h]at e1;cases e1
    ·rw[h]at e1;cases e1
    ·simp only at e1;rw[h]at e1;cases e1
   ·exact fun e=>absurd e hw
theorem JB.give {env:List (Txt × Txt)} {c0:CfV} {kn:List KnV} {wr:List DoV} {r:RunV} {d:DoV} (h:JB env c0 kn wr r d) (k:KnV) (hw:r.waits=true) (hp:k.path=r.asks) (hd:k.is=true→k.data.length≤65536) :
  (QB k r).1=0∧AtR env c0 (kn++[k]) wr (QB k r).2∧(QB k r).2.over.kind=0∧ccR (QB k r).2=ccR r:=by
 have hi:=zae h.at_.inv k (fun h=>by have:=hd h;omega)
 have ho:=h.at_.ov.2 hw
 have hg:QB k r=(0,{ r with known:=r.known++[k],asks:=[],waits:=false }):=by
  unfold QB
  simp only[p9 h.stops]
  rw[if_neg (by rw[hw];decide),if_neg (by simp[hp]),if_neg (fun h=>by have:=hd h.1;omega)]
 rw[hg]at hi ⊢
 refine⟨rfl,⟨hi,⟨.inl ho,fun e=>by cases e⟩,h.at_.en,by simp only[h.at_.kno],fun kn' hk=>?_⟩,by simp only[ho];rfl,rfl⟩
 have:=h.at_.runs kn' ((List.prefix_append kn [k]).trans hk)
 have e:jV wr { r with known:=r.known++[k],asks:=[],waits:=false }=jV wr r:=by simp[jV,hw,hp,ho,do0]
 rw[e];exact this
end Go.Proofs.YtooipdkilgpojaaGreatDoor
end
section
set_option maxRecDepth 100000
namespace Go.Proofs.YtooipdkilgpojaaGreatDoor
open Go Go.Ab
open Classical
variable [Sel]
def zc4:List UInt8:=List.replicate 32 0
structure U1 where
 path:List UInt8
 data:List UInt8
deriving DecidableEq
structure zcy where
 kind:Int
 why:Int
 outs:List U1
 reads:List XF
def jZ (f:U1):AV:=.agg [.s f.path,.s f.data]
def zU (l:List U1):AV:=.sl .no (l.map jZ)
def zI (o:zcy):AV:=.agg [.i .i64 o.kind,.i .i64 o.why,zU o.outs,qF o.reads]
@[simp] theorem zfq (f:U1):(jZ f).er=jZ f:=by simp[jZ,AV.er,AV.ers]
@[simp] theorem zdW (l:List U1):(zU l).er=zU l:=by simp[zU,AV.er,AV.ers_eq,Function.comp_def]
@[simp] theorem KO (o:zcy):(zI o).er=zI o:=by simp[zI,AV.er,AV.ers]
@[simp] theorem znl (x:U1):(jZ x).erk=jZ x:=kH _ (zfq x)
@[simp] theorem zlu (x:List U1):(zU x).erk=zU x:=kH _ (zdW x)
@[simp] theorem zoi (x:zcy):(zI x).erk=zI x:=kH _ (KO x)

@[simp] theorem zys:qZ Tryz.prog 48=true:=by kernel_rfl
@[simp] theorem zyz:z8 Tryz.prog (.func 48)=false:=q9 zys
theorem zE0 (l:List XF) (hl:l.length≤1000):PC Tryz.prog 48 [.av (.slice 79) (qF l)] (.av (.slice 79) (qF l)):=by
 refine PC.of <| q7.of_vc laid mixed Tryz.func48 rfl cf0 (by kernel_rfl) (by simp[Tryz.ntmps48]) fun imm0 w0=>?_
 (simp (disch:=first|omega|assumption) [zz,qF])
 refine⟨?_,?_⟩
 ·intro h
  subst h
  (simp (disch:=first|omega|assumption) [zz,Tryz.f48])
 ·(simp (disch:=first|omega|assumption) [zz,wB,Tryz.f48])
  exact⟨by omega,by omega,by simp[AV.ers_eq,Function.comp_def]⟩
def wi (x:UInt32):Int:=x.toNat
abbrev w6 (w:UInt32):AV:=.i .u32 (wi w)
theorem dM {n:Nat} (h:n<4294967296):IntKind.u32.wrap (n:Int)=n:=by
 simp[IntKind.wrap,IntKind.signed,IntKind.bits];omega
theorem cR (x:UInt32):BitVec.ofInt IntKind.u32.bits (wi x)=x.toBitVec:=by
 apply BitVec.eq_of_toNat_eq
 show (BitVec.ofInt 32 (x.toNat:Int)).toNat=_
 simp
 rfl
theorem UQ (x y:UInt32):IntKind.u32.wrap (wi x+wi y)=wi (x+y):=by
 have:=x.toNat_lt;have:=y.toNat_lt
 simp[wi,IntKind.wrap,IntKind.signed,IntKind.bits,UInt32.toNat_add]
theorem wor (x y:UInt32):IntKind.u32.wrap ((BitVec.ofInt IntKind.u32.bits (wi x) ||| BitVec.ofInt IntKind.u32.bits (wi y)).toNat:Int)=wi (x ||| y):=by
 rw[cR,cR,dM (BitVec.isLt _)];rfl
theorem VI (x y:UInt32):IntKind.u32.wrap ((BitVec.ofInt IntKind.u32.bits (wi x) ^^^ BitVec.ofInt IntKind.u32.bits (wi y)).toNat:Int)=wi (x ^^^ y):=by
 rw[cR,cR,dM (BitVec.isLt _)];rfl
theorem pL (x y:UInt32):IntKind.u32.wrap ((BitVec.ofInt IntKind.u32.bits (wi x) &&& BitVec.ofInt IntKind.u32.bits (wi y)).toNat:Int)=wi (x &&& y):=by
 rw[cR,cR,dM (BitVec.isLt _)];rfl
theorem pC (x:UInt32):IntKind.u32.wrap ((BitVec.ofInt IntKind.u32.bits (if IntKind.u32.signed then -1 else IntKind.u32.max) ^^^ BitVec.ofInt IntKind.u32.bits (wi x)).toNat:Int)=wi (~~~ x):=by
 rw[cR,dM (BitVec.isLt _)]
 unfold wi
 show ((BitVec.ofInt 32 4294967295 ^^^ x.toBitVec).toNat:Int)=((~~~ x.toBitVec).toNat:Int)
 rw[show BitVec.ofInt 32 4294967295=BitVec.allOnes 32 from by decide,BitVec.allOnes_xor]
theorem zpA (x:UInt32) {n:Nat} (h:n<32):(wi x).fdiv (2 ^ n)=wi (x >>> UInt32.ofNat n):=by
 have e:(x >>> UInt32.ofNat n).toNat=x.toNat / 2 ^ n:=by
  rw[UInt32.toNat_shiftRight,UInt32.toNat_ofNat_of_lt' (by rw[UInt32.size];omega),Nat.mod_eq_of_lt (by omega),Nat.shiftRight_eq_div_pow]
 unfold wi
 rw[e,Int.fdiv_eq_ediv_of_nonneg _ (Int.le_of_lt (Int.pow_pos (by omega)))]
 norm_cast
theorem zp4 (x:UInt32) {n:Nat} (h:n<32):IntKind.u32.wrap (wi x*2 ^ n)=wi (x <<< UInt32.ofNat n):=by
 have e:(x <<< UInt32.ofNat n).toNat=(x.toNat*2 ^ n) % 4294967296:=by
  rw[UInt32.toNat_shiftLeft,UInt32.toNat_ofNat_of_lt' (by rw[UInt32.size];omega),Nat.mod_eq_of_lt (by omega:n<32),Nat.shiftLeft_eq]
 unfold wi
 rw[e]
 simp[IntKind.wrap,IntKind.signed,IntKind.bits]
theorem ziD {n:Nat} (h:n<32):min n IntKind.u32.bits=n:=by simp[IntKind.bits];omega
theorem uU (x:UInt32) {n:Nat} (h:n<32):(wi x).fdiv (2 ^ (min n IntKind.u32.bits))=wi (x >>> UInt32.ofNat n):=by rw[ziD h,zpA x h]
theorem zp0 (x:UInt32) {n:Nat} (h:n<32):IntKind.u32.wrap (wi x*2 ^ (min n IntKind.u32.bits))=wi (x <<< UInt32.ofNat n):=by rw[ziD h,zp4 x h]
theorem zoV (b:UInt8):IntKind.u32.wrap (b.toNat:Int)=wi b.toUInt32:=by
 have:=b.toNat_lt
 rw[dM (by omega)];simp[wi]
theorem zrH (x:UInt32):IntKind.u8.wrap (wi x)=(x.toUInt8.toNat:Int):=by
 simp[wi,IntKind.wrap,IntKind.signed,IntKind.bits]
def XD (x:UInt32) (n:Nat):UInt32:=(x >>> UInt32.ofNat n) ||| (x <<< UInt32.ofNat (32-n))
theorem zaA {n:Nat} (h:n<4294967296):IntKind.u64.wrap (n:Int)=n:=by
 simp[IntKind.wrap,IntKind.signed,IntKind.bits];omega
theorem zp6 {n:Nat} (h:n<32):(BitVec.ofInt 64 (n:Int) &&& 31#64).toNat=n:=by
 have e:(BitVec.ofInt 64 (n:Int)).toNat=n:=by simp;omega
 rw[BitVec.toNat_and,e]
 have:=Nat.and_two_pow_sub_one_eq_mod n 5
 simp only[Nat.reducePow,Nat.reduceSub]at this
 show n &&& 31=n
 rw[this];omega
def zf4 (a b c d:UInt8):UInt32:=((a.toUInt32 <<< 24) ||| (b.toUInt32 <<< 16) ||| (c.toUInt32 <<< 8)) ||| d.toUInt32
theorem zbC (a b c d:UInt8):((((((0:UInt32) <<< 8 ||| a.toUInt32) <<< 8) ||| b.toUInt32) <<< 8 ||| c.toUInt32) <<< 8) ||| d.toUInt32=zf4 a b c d:=by
 unfold zf4
 apply UInt32.toBitVec_inj.1
 ext i hi
 simp
 grind
def k64:List UInt32:=[0x428a2f98,0x71374491,0xb5c0fbcf,0xe9b5dba5,0x3956c25b,0x59f111f1,0x923f82a4,0xab1c5ed5,0xd807aa98,0x12835b01,0x243185be,
 0x550c7dc3,0x72be5d74,0x80deb1fe,0x9bdc06a7,0xc19bf174,0xe49b69c1,0xefbe4786,0x0fc19dc6,0x240ca1cc,0x2de92c6f,0x4a7484aa,
 0x5cb0a9dc,0x76f988da,0x983e5152,0xa831c66d,0xb00327c8,0xbf597fc7,0xc6e00bf3,0xd5a79147,0x06ca6351,0x14292967,0x27b70a85,
 0x2e1b2138,0x4d2c6dfc,0x53380d13,0x650a7354,0x766a0abb,0x81c2c92e,0x92722c85,0xa2bfe8a1,0xa81a664b,0xc24b8b70,0xc76c51a3,
 0xd192e819,0xd6990624,0xf40e3585,0x106aa070,0x19a4c116,0x1e376c08,0x2748774c,0x34b0bcb5,0x391c0cb3,0x4ed8aa4a,0x5b9cca4f,
 0x682e6ff3,0x748f82ee,0x78a5636f,0x84c87814,0x8cc70208,0x90befffa,0xa4506ceb,0xbef9a3f7,0xc67178f2]
def h8:List UInt32:=[0x6a09e667,0xbb67ae85,0x3c6ef372,0xa54ff53a,0x510e527f,0x9b05688c,0x1f83d9ab,0x5be0cd19]
@[simp] theorem zmC:qZ Tryz.prog 149=true:=by kernel_rfl
@[simp] theorem zql:z8 Tryz.prog (.func 149)=false:=q9 zmC
@[simp] theorem zAe:qZ Tryz.prog 173=true:=by kernel_rfl
@[simp] theorem zAY:z8 Tryz.prog (.func 173)=false:=q9 zAe
@[simp] theorem zEh:qZ Tryz.prog 213=true:=by kernel_rfl
@[simp] theorem zEE:z8 Tryz.prog (.func 213)=false:=q9 zEh
@[simp] theorem zm3:qZ Tryz.prog 148=true:=by kernel_rfl
@[simp] theorem zqH:z8 Tryz.prog (.func 148)=false:=q9 zm3
@[simp] theorem zls:qZ Tryz.prog 147=true:=by kernel_rfl
@[simp] theorem zq4:z8 Tryz.prog (.func 147)=false:=q9 zls
@[simp] theorem zzN:qZ Tryz.prog 171=true:=by kernel_rfl
@[simp] theorem zAE:z8 Tryz.prog (.func 171)=false:=q9 zzN
@[simp] theorem zkc:qZ Tryz.prog 136=true:=by kernel_rfl
@[simp] theorem zqX:z8 Tryz.prog (.func 136)=false:=q9 zkc

theorem zCV (x:UInt32) (n:Nat) (h0:0<n) (h:n<32):PC Tryz.prog 149 [.av (.int .u32) (w6 x),.av (.int .i64) (.i .i64 n)] (.av (.int .u32) (w6 (XD x n))):=by
 have e1:IntKind.i64.wrap (32-(n:Int))=((32-n:Nat):Int):=by rw[i64_in (by omega) (by omega)];omega
 have s1:=uU x h
 have s2:=zp0 x (show 32-n<32 by omega)
 refine PC.of <| q7.of_vc laid mixed Tryz.func149 rfl cf0 (by kernel_rfl) (by simp[Tryz.ntmps149]) fun imm0 w0=>?_
 simp[e1,Tryz.f149,s1,s2,wor,XD,-BitVec.toNat_or]

theorem zlQ (x:UInt32) (n:Nat) (h0:0<n) (h:n<32):PC Tryz.prog 213 [.av (.int .u32) (w6 x),.av (.int .i64) (.i .i64 ((32-n:Nat):Int))] (.av (.int .u32) (w6 (XD x n))):=by
 have e1:IntKind.u64.wrap ((32-n:Nat):Int)=((32-n:Nat):Int):=zaA (by omega)
 have e4:(BitVec.ofInt IntKind.u64.bits ((32-n:Nat):Int) &&& BitVec.ofInt IntKind.u64.bits 31).toNat=32-n:=zp6 (by omega)
 have e5:IntKind.u64.wrap (32-((32-n:Nat):Int))=(n:Int):=by
  have:(32-((32-n:Nat):Int))=(n:Int):=by omega
  rw[this];exact zaA (by omega)
 have s1:=uU x h
 have s2:=zp0 x (show 32-n<32 by omega)
 have hc:XD x n=(x <<< UInt32.ofNat (32-n)) ||| (x >>> UInt32.ofNat n):=UInt32.or_comm _ _
 refine PC.of <| q7.of_vc laid mixed Tryz.func213 rfl cf0 (by kernel_rfl) (by simp[Tryz.ntmps213]) fun imm0 w0=>?_
 have e4':(BitVec.ofNat IntKind.u64.bits (32-n) &&& 31#IntKind.u64.bits).toNat=32-n:=by rw[←BitVec.ofInt_natCast];exact e4
 simp[e1,e4',e5,Tryz.f213,s1,s2,wor,hc,-BitVec.toNat_or,-BitVec.toNat_and]

theorem kO (x:UInt32) (n:Nat) (h0:0<n) (h:n<32):PC Tryz.prog 173 [.av (.int .u32) (w6 x),.av (.int .i64) (.i .i64 n)] (.av (.int .u32) (w6 (XD x n))):=by
 have e1:IntKind.i64.wrap (32-(n:Int))=((32-n:Nat):Int):=by rw[i64_in (by omega) (by omega)];omega
 refine PC.of <| q7.of_vc laid mixed Tryz.func173 rfl cf0 (by kernel_rfl) (by simp[Tryz.ntmps173]) fun imm0 w0=>?_
 simp[e1]
 refine UE (r:=.av (.int .u32) (w6 (XD x n))) rfl (by simp[qQ]) (by simp) ?_ ?_
 ·have:=zlQ x n h0 h
  simpa[TV.er,AV.er]using this
 ·simp[Tryz.f173]

def X1 (l:List UInt8):AV:=.sl .no (l.map fun b=>.i .u8 b.toNat)
@[simp] theorem zib (l:List UInt8):(X1 l).er=X1 l:=by simp[X1,AV.er,AV.ers_eq,Function.comp_def]
@[simp] theorem zoP (l:List UInt8):(X1 l).erk=X1 l:=kH _ (zib l)
theorem zDW (a b c d:UInt8):PC Tryz.prog 148 [.av (.slice 5) (X1 [a,b,c,d])] (.av (.int .u32) (w6 (zf4 a b c d))):=by
 have s1:=zp0 a.toUInt32 (show 24<32 by omega)
 have s2:=zp0 b.toUInt32 (show 16<32 by omega)
 have s3:=zp0 c.toUInt32 (show 8<32 by omega)
 refine PC.of <| q7.of_vc laid mixed Tryz.func148 rfl cf0 (by kernel_rfl) (by simp[Tryz.ntmps148]) fun imm0 w0=>?_
 simp[X1,zoV,Tryz.f148,s1,s2,s3,wor,zf4,-BitVec.toNat_or]

theorem zEr:PC Tryz.prog 147 [] (.av (.slice 174) (.sl .no (k64.map w6))):=by
 refine PC.of <| q7.of_vc laid mixed Tryz.func147 rfl cf0 (by kernel_rfl) (by simp[Tryz.ntmps147]) fun imm0 w0=>?_
 simp[Tryz.f147,k64,wi]
theorem V4:PC Tryz.prog 171 [] (.av (.arr 64 174) (.agg (k64.map w6))):=by
 refine PC.of <| q7.of_vc laid mixed Tryz.func171 rfl cf0 (by kernel_rfl) (by simp[Tryz.ntmps171]) fun imm0 w0=>?_
 simp[Tryz.f171,k64,wi]
theorem zjO:PC Tryz.prog 136 [] (.av (.arr 8 174) (.agg (h8.map w6))):=by
 refine PC.of <| q7.of_vc laid mixed Tryz.func136 rfl cf0 (by kernel_rfl) (by simp[Tryz.ntmps136]) fun imm0 w0=>?_
 simp[Tryz.f136,h8,wi]
end Go.Proofs.YtooipdkilgpojaaGreatDoor
end
