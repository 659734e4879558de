/- The document's tool in great steps, and in small ones: plain. No condition beyond each theorem's own. -/
import Derived.Test.YtidhkfcjichiiaaGreatDoorK20ToRW0
set_option linter.unusedSimpArgs false
set_option linter.unusedVariables false
set_option linter.unusedSectionVars false
section
set_option maxRecDepth 100000
namespace Go.Proofs.YtidhkfcjichiiaaGreatDoor
open Go Go.Ab
open Classical
variable [Sel] [SelPow] [SelMax]
def y7 (kn:List KnV) (p:Txt) (s:StV):StV × KnV :=
 if p∉s.asked∧s.asked.length=500 then(yZ 6 s,kn0)
 else
  let s1:StV:=if p∈s.asked then s else { s with asked:=s.asked++[p] }
  match zQ kn p with
  | some k=>(s1,k)
  | none=>({ s1 with stop:=⟨1,p,[],0⟩ },kn0)
def ZS (rec:Txt→StV→List Txt→StV × List Txt) (w:Txt):List Txt→StV→List Txt→StV × List Txt
 | [],s,d=>(s,d)
 | x::r,s,d=>if s.stop.kind≠0 then(s,d) else match zR x with
  | [a,q]=>if a≠w∨yV q=false then ZS rec w r (yP (x++[10]) s) d
   else if q∈d then ZS rec w r s d
   else ZS rec w r (rec q s d).1 (rec q s d).2
  | _=>ZS rec w r (yP (x++[10]) s) d
def zdm (kn:List KnV) (w:Txt):Nat→Txt→StV→List Txt→StV × List Txt
 | 0,_,s,d=>(s,d)
 | n+1,p,s,d =>
  let s1:=(y7 kn p s).1
  let k:=(y7 kn p s).2
  if s1.stop.kind≠0 then(s1,d++[p])
  else if k.is=false then(yZ 10 s1,d++[p])
  else ZS (zdm kn w n) w (z7 k.data) s1 (d++[p])
structure CG (s:StV) (d:List Txt):Prop where
 stop:s.stop=do0
 nod:d.Nodup
 sub:∀p∈d,p∈s.asked
 len:s.asked.length≤500
theorem CG.dlen {s:StV} {d:List Txt} (h:CG s d):d.length≤500 :=
 Nat.le_trans (List.Nodup.length_le_of_subset h.nod h.sub) h.len
theorem zjM (env:List (Txt × Txt)) (kn:List KnV) (p:Txt) (co:CoV) (c:CfV) (h0:c.st.stop.kind=0) (hl:c.st.asked.length≤500) :
  (∃k,y7 kn p c.st=(if p∈c.st.asked then c.st else { c.st with asked:=c.st.asked++[p] },k)∧zQ kn p=some k∧(y7 kn p c.st).1.stop=c.st.stop∧p∈(y7 kn p c.st).1.asked∧(∀q∈c.st.asked,q∈(y7 kn p c.st).1.asked)∧(y7 kn p c.st).1.asked.length≤500∧
   Q7 env kn (VX p co c) (coS co k { c with st:=(y7 kn p c.st).1 }))∨
  ((y7 kn p c.st).1.stop.kind≠0∧∃td',Q7 env kn (VX p co c) ⟨td',(y7 kn p c.st).1,c.done⟩):=by
 unfold y7 VX
 by_cases hin:p∈c.st.asked
 ·simp only[hin,if_true,not_true,false_and,if_false]
  cases hf:zQ kn p with
  | some k =>
   left
   refine⟨k,rfl,rfl,rfl,hin,fun q h=>h,hl,?_⟩
   refine .step h0 ?_
   simp only[J6,hf]
   exact .refl _
  | none =>
   right
   refine⟨by simp,c.td,?_⟩
   refine .step h0 ?_
   simp only[J6,hf]
   exact .refl _
 ·simp only[hin,if_false,not_false_iff,true_and]
  by_cases h5:c.st.asked.length=500
  ·simp only[h5,if_true,Nat.le_refl]
   exact .inr ⟨by simp[yZ],c.td,.refl _⟩
  ·have h5':¬500≤c.st.asked.length:=by omega
   simp only[h5,h5',if_false]
   cases hf:zQ kn p with
   | some k =>
    left
    refine⟨k,rfl,rfl,rfl,by simp,fun q h=>by simp[h],by simp;omega,?_⟩
    refine .step h0 ?_
    simp only[J6,hf]
    exact .refl _
   | none =>
    right
    refine⟨by simp,c.td,?_⟩
    refine .step h0 ?_
    simp only[J6,hf]
    exact .refl _
theorem zk6 {t:Txt} {s:StV} {d:List Txt} (h:CG s d):(yP t s).asked=s.asked∧((yP t s).stop.kind=0→CG (yP t s) d):=by
 unfold yP
 split
 ·exact⟨rfl,fun e=>by simp[yZ]at e⟩
 ·exact⟨rfl,fun _=>⟨h.stop,h.nod,h.sub,h.len⟩⟩
structure zmT (env:List (Txt × Txt)) (kn:List KnV) (c:CfV) (td:List TdV) (d:List Txt) (r:StV × List Txt):Prop where
 pre:d <+: r.2
 go:r.1.stop.kind=0→CG r.1 r.2∧Q7 env kn c ⟨td,r.1,r.2⟩
 stop:r.1.stop.kind≠0→∃td' d',Q7 env kn c ⟨td',r.1,d'⟩
theorem uN {env:List (Txt × Txt)} {kn:List KnV} {w:Txt} {n:Nat} (rec:Txt→StV→List Txt→StV × List Txt)
  (hrec:∀(p:Txt) (s:StV) (d:List Txt) (td:List TdV),CG s d→p∉d→501-d.length≤n→zmT env kn (zb0 p w ⟨td,s,d⟩) td (d++[p]) (rec p s d)) :
  ∀(l:List Txt) (s:StV) (d:List Txt) (td:List TdV),CG s d→501-d.length≤n→zmT env kn ⟨(l.map fun x=>.line x w)++td,s,d⟩ td d (ZS rec w l s d)
 | [],s,d,td,hi,hn=>⟨List.prefix_refl _,fun _=>⟨hi,by simpa[ZS]using .refl _⟩,fun h=>by simp[ZS,hi.stop,do0]at h⟩
 | x::r,s,d,td,hi,hn=>by
  have hk0:s.stop.kind=0:=by rw[hi.stop];rfl
  have h0:¬s.stop.kind≠0:=by simp[hk0]
  have hstep:∀c',D4 x w ⟨(r.map fun x=>.line x w)++td,s,d⟩=c'→Q7 env kn ⟨((x::r).map fun x=>.line x w)++td,s,d⟩ c':=fun c' e=>by
   subst e
   exact .step hk0 (.refl _)
    -- a line is added
  have hadd:D4 x w ⟨(r.map fun x=>.line x w)++td,s,d⟩=⟨(r.map fun x=>.line x w)++td,yP (x++[10]) s,d⟩→zmT env kn ⟨((x::r).map fun x=>.line x w)++td,s,d⟩ td d (ZS rec w r (yP (x++[10]) s) d):=by
   intro e
   have hr:=hstep _ e
   by_cases hk:(yP (x++[10]) s).stop.kind=0
   ·have ih:=uN rec hrec r _ d td ((zk6 hi).2 hk) hn
    exact⟨ih.pre,fun h=>⟨(ih.go h).1,hr.trans (ih.go h).2⟩,fun h=>by obtain⟨td',d',h1⟩:=ih.stop h;exact⟨td',d',hr.trans h1⟩⟩
   ·have hv:ZS rec w r (yP (x++[10]) s) d=(yP (x++[10]) s,d):=by
     cases r with
     | nil=>rfl
     | cons y r=>rw[ZS,if_pos hk]
    rw[hv]
    exact⟨List.prefix_refl _,fun h=>absurd h hk,fun _=>⟨_,_,hr⟩⟩
  rw[ZS,if_neg h0]
  unfold D4 at hadd hstep
  generalize zR x=ws at hadd hstep ⊢
  rcases ws with _|⟨a,_|⟨q,_|⟨z,l⟩⟩⟩
  ·exact hadd rfl
  ·exact hadd rfl
  ·simp only at hadd hstep ⊢
   by_cases h1:a≠w∨yV q=false
   ·rw[if_pos h1];exact hadd (if_pos h1)
   rw[if_neg h1]at hstep ⊢
   by_cases h2:q∈d
   ·rw[if_pos h2]at hstep ⊢
    have hr:=hstep _ rfl
    have ih:=uN rec hrec r s d td hi hn
    exact⟨ih.pre,fun h=>⟨(ih.go h).1,hr.trans (ih.go h).2⟩,fun h=>by obtain⟨td',d',h1⟩:=ih.stop h;exact⟨td',d',hr.trans h1⟩⟩
   ·rw[if_neg h2]at hstep ⊢
    have hr:=hstep _ rfl
    have hs:=hrec q s d ((r.map fun x=>.line x w)++td) hi h2 hn
    have hpl:=hs.pre.length_le
    simp only[List.length_append,List.length_cons,List.length_nil]at hpl
    have hpd:d <+: (rec q s d).2:=(List.prefix_append d [q]).trans hs.pre
    by_cases hk:(rec q s d).1.stop.kind=0
    ·obtain⟨g1,g2⟩:=hs.go hk
     have ih:=uN rec hrec r (rec q s d).1 (rec q s d).2 td g1 (by omega)
     exact⟨hpd.trans ih.pre,fun h=>⟨(ih.go h).1,hr.trans (g2.trans (ih.go h).2)⟩,fun h=>by obtain⟨td',d',h1⟩:=ih.stop h;exact⟨td',d',hr.trans (g2.trans h1)⟩⟩
    ·obtain⟨td',d',g1⟩:=hs.stop hk
     have hv:ZS rec w r (rec q s d).1 (rec q s d).2=((rec q s d).1,(rec q s d).2):=by
      cases r with
      | nil=>rfl
      | cons y r=>rw[ZS,if_pos hk]
     rw[hv]
     exact⟨hpd,fun h=>absurd h hk,fun _=>⟨td',d',hr.trans g1⟩⟩
  ·exact hadd rfl
theorem zco {env:List (Txt × Txt)} {kn:List KnV} {w:Txt}:∀(n:Nat) (p:Txt) (s:StV) (d:List Txt) (td:List TdV),CG s d→p∉d→501-d.length≤n→zmT env kn (zb0 p w ⟨td,s,d⟩) td (d++[p]) (zdm kn w n p s d)
 | 0,p,s,d,td,hi,hp,hn=>by have:=hi.dlen;omega
 | n+1,p,s,d,td,hi,hp,hn=>by
  have hk0:s.stop.kind=0:=by rw[hi.stop];rfl
  have ha:=zjM env kn p (.there (.scan w)) ⟨td,s,d++[p]⟩ hk0 hi.len
  have hsc:zb0 p w ⟨td,s,d⟩=VX p (.there (.scan w)) ⟨td,s,d++[p]⟩:=rfl
  rw[hsc]
  rw[zdm]
  rcases ha with⟨k,h1,h2,h3,h4,h5,h6,h7⟩|⟨h1,td',h2⟩
  ·simp only at h1 h3 h4 h5 h6 h7
   have hk:(y7 kn p s).2=k:=by rw[h1]
   have hst:¬(y7 kn p s).1.stop.kind≠0:=by rw[h3,hk0];simp
   rw[if_neg hst,hk]
   have hi2:CG (y7 kn p s).1 (d++[p]):=by
    refine⟨h3.trans hi.stop,?_,?_,h6⟩
    ·refine List.nodup_append.2 ⟨hi.nod,by simp,fun a ha c hc=>?_⟩
     simp only[List.mem_singleton]at hc
     subst hc
     exact fun e=>hp (e▸ha)
    ·intro q hq
     rcases List.mem_append.1 hq with hq|hq
     ·exact h5 q (hi.sub q hq)
     ·rw[List.mem_singleton.1 hq];exact h4
   cases his:k.is with
   | false =>
    rw[if_pos rfl]
    refine⟨List.prefix_refl _,fun e=>by simp[yZ]at e,fun _=>⟨td,d++[p],?_⟩⟩
    have:coS (.there (.scan w)) k ⟨td,(y7 kn p s).1,d++[p]⟩=⟨td,yZ 10 (y7 kn p s).1,d++[p]⟩:=by
     simp[coS,his,CfV.map]
    rw[←this];exact h7
   | true =>
    rw[if_neg (by decide)]
    have:coS (.there (.scan w)) k ⟨td,(y7 kn p s).1,d++[p]⟩=⟨((z7 k.data).map fun x=>.line x w)++td,(y7 kn p s).1,d++[p]⟩:=by
     simp[coS,his,thS]
    rw[this]at h7
    have ih:=uN (env:=env) (kn:=kn) (w:=w) (n:=n) (zdm kn w n) (fun p s d td a b c=>zco n p s d td a b c) (z7 k.data) (y7 kn p s).1 (d++[p]) td hi2 (by simp only[List.length_append,List.length_cons,List.length_nil];omega)
    exact⟨ih.pre,fun h=>⟨(ih.go h).1,h7.trans (ih.go h).2⟩,fun h=>by obtain⟨td',d',h1⟩:=ih.stop h;exact⟨td',d',h7.trans h1⟩⟩
  ·simp only at h1 h2
   rw[if_pos h1]
   exact⟨List.prefix_refl _,fun e=>absurd e h1,fun _=>⟨td',d++[p],h2⟩⟩
def ccR (r:RunV):Nat:=r.todo.countP isC
structure Ef (b:Bool) (r r':RunV):Prop where
 en:r'.env=r.env
 cc:ccR r'=ccR r
 ov:r'.over=r.over∨(r'.over.kind=4∧r'.over.why≠0)∨(b=true∧r'.over.kind=2∧r'.over.why=0)
 wo:r.waits=false→r'.waits=true→r'.over=r.over
theorem Ef.refl {b:Bool} (r:RunV):Ef b r r:=⟨rfl,rfl,.inl rfl,fun _ _=>rfl⟩
theorem Ef.same {b:Bool} {r r':RunV} (h1:r'.env=r.env) (h2:r'.todo=r.todo) (h3:r'.over=r.over):Ef b r r':=⟨h1,by rw[ccR,h2];rfl,.inl h3,fun _ _=>h3⟩
theorem Ef.fail {b:Bool} (e:Int) (r:RunV) (he:e≠0:=by decide):Ef b r (wC e r):=⟨rfl,rfl,.inr (.inl ⟨rfl,he⟩),fun h1 h2=>by rw[show (wC e r).waits=r.waits from rfl,h1]at h2;cases h2⟩
theorem Ef.add {b:Bool} (t:Txt) (r:RunV):Ef b r (wW t r):=by
 unfold wW
 split
 ·exact .fail _ _
 ·exact .same rfl rfl rfl
theorem Ef.lines {b:Bool} (t:List Txt) (r:RunV):Ef b r (kS t r):=by
 have h:=Ef.add (b:=b) (t.flatMap (·++[10])) { r with buf:=[] }
 exact⟨h.en,h.cc,h.ov,h.wo⟩
theorem zhk (w:Txt) (l:List Txt):(l.map fun s=>TdV.line s w).countP isC=0:=by
 rw[List.countP_eq_zero]
 intro t ht
 obtain⟨s,_,rfl⟩:=List.mem_map.1 ht
 simp[isC]
theorem Ef.co {b:Bool} (k:CoV) (x:KnV) (r:RunV):Ef b r (coR k x r):=by
 cases hx:x.is with
 | false =>
  cases k with
  | tr=>rw[show coR .tr x r=r by simp[coR,hx]];exact .refl _
  | there t=>rw[show coR (.there t) x r=wC 10 r by simp[coR,hx]];exact .fail _ _
 | true =>
  cases k with
  | tr=>rw[show coR .tr x r=wW x.data r by simp[coR,hx]];exact .add _ _
  | there t=>cases t with
   | add=>rw[show coR (.there .add) x r=wW x.data r by simp[coR,hx,thR]];exact .add _ _
   | scan w =>
    rw[show coR (.there (.scan w)) x r={ r with todo:=r.todo++(z7 x.data).reverse.map fun s=>.line s w } by simp[coR,hx,thR]]
    exact⟨rfl,by have:=zhk w (z7 x.data).reverse;simp only[ccR,List.countP_append,this,Nat.add_zero],.inl rfl,fun _ _=>rfl⟩
theorem Ef.ask {b:Bool} (p:Txt) (k:CoV) (r:RunV):Ef b r (Q6 p k r):=by
 unfold Q6
 split
 ·exact .co _ _ _
 ·split
  ·exact .fail _ _
  ·exact⟨rfl,by simp[ccR,isC],.inl rfl,fun _ _=>rfl⟩
theorem Ef.scan {b:Bool} (p w:Txt) (r:RunV):Ef b r (ZL p w r):=by
 have h:=Ef.ask (b:=b) p (.there (.scan w)) { r with seen:=r.seen++[p] }
 exact⟨h.en,h.cc,h.ov,h.wo⟩
theorem Ef.line {b:Bool} (s w:Txt) (r:RunV):Ef b r (Z1 s w r):=by
 unfold Z1
 split
 ·split
  ·exact .add _ _
  split
  ·exact .refl _
  ·exact .scan _ _ _
 ·exact .add _ _
theorem Ef.turn {b:Bool} (n a:Txt) (r:RunV):Ef b r (wK n a r):=by
 unfold wK
 split
 ·exact .lines _ _
 split
 ·exact .lines _ _
 split
 ·exact .same rfl rfl rfl
 split
 ·exact .same rfl rfl rfl
 split
 ·exact .lines _ _
 ·exact .refl _
theorem Ef.cmd (c:CmdV) (r:RunV):Ef true r (doR c r):=by
 unfold doR
 simp only
 split
 ·exact .ask _ _ _
 split
 ·exact .ask _ _ _
 split
 ·have h:=Ef.scan (b:=true) (c.words.getD 1 []) (c.words.getD 2 []) { r with seen:=[] }
  exact⟨h.en,h.cc,h.ov,h.wo⟩
 split
 ·exact .add _ _
 split
 ·split
  ·exact .add _ _
  ·exact .fail _ _
 split
 ·exact⟨rfl,rfl,.inr (.inr ⟨rfl,rfl,rfl⟩),fun h1 h2=>by rw[show (RunV.waits _)=r.waits from rfl,h1]at h2;cases h2⟩
 split
 ·split
  ·exact .refl _
  ·exact .fail _ _
 split
 ·exact .fail _ _
 ·exact .turn _ _ _
structure zg9 (r r':RunV):Prop where
 en:r'.env=r.env
 cc:ccR r'≤ccR r
 ov:r'.over=r.over∨r'.over=⟨3,[],[],0⟩∨(r'.over.kind=4∧r'.over.why≠0)∨(r'.over.kind=2∧r'.over.why=0∧ccR r'<ccR r)
 wo:r.waits=false→r'.waits=true→r'.over=r.over
theorem zgh (r:RunV):zg9 r (QL r):=by
 rcases List.eq_nil_or_concat r.todo with ht|⟨l,t,ht⟩
 ·rw[KT ht]
  exact⟨rfl,Nat.le_refl _,.inr (.inl rfl),fun h1 h2=>by rw[show (RunV.waits _)=r.waits from rfl,h1]at h2;cases h2⟩
 ·rw[List.concat_eq_append]at ht
  rw[KV ht]
  have hc:ccR r=ccR { r with todo:=l }+if isC t=true then 1 else 0:=by
   simp only[ccR,ht,List.countP_append,List.countP_cons,List.countP_nil];omega
  have go:∀ {r':RunV},Ef false { r with todo:=l } r'→zg9 r r':=fun h=>by
   refine⟨h.en,by rw[h.cc];omega,?_,h.wo⟩
   rcases h.ov with h|h|⟨h,_⟩
   ·exact .inl h
   ·exact .inr (.inr (.inl h))
   ·cases h
  cases t with
  | cmd c =>
   have h:=Ef.cmd c { r with todo:=l }
   have hc':ccR r=ccR { r with todo:=l }+1:=hc
   refine⟨h.en,?_,?_,h.wo⟩
   ·have:=h.cc;simp only[tdR];omega
   ·rcases h.ov with h1|h1|⟨_,h1,h9⟩
    ·exact .inl h1
    ·exact .inr (.inr (.inl h1))
    ·refine .inr (.inr (.inr ⟨h1,h9,?_⟩))
     have:=h.cc;simp only[tdR];omega
  | line s w=>exact go (.line _ _ _)
  | ans k p=>exact go (.co _ _ _)
def OV (r:RunV):Prop:=(r.over=do0∨(r.over.kind=2∧r.over.why=0)∨r.over=⟨3,[],[],0⟩∨(r.over.kind=4∧r.over.why≠0))∧(r.waits=true→r.over=do0)
theorem OV.zero {r:RunV} (h:OV r) (h0:r.over.kind=0):r.over=do0:=by
 rcases h.1 with h|⟨h,_⟩|h|⟨h,_⟩
 ·exact h
 ·rw[h0]at h;cases h
 ·rw[h]at h0;cases h0
 ·rw[h0]at h;cases h
theorem zg9.ovk {r r':RunV} (h:zg9 r r') (h0:OV r) (hk:r.over.kind=0) (hw:r.waits=false):OV r':=by
 have hd:=h0.zero hk
 refine⟨?_,fun e=>(h.wo hw e).trans hd⟩
 rcases h.ov with h1|h1|h1|⟨h1,h9,_⟩
 ·exact .inl (h1.trans hd)
 ·exact .inr (.inr (.inl h1))
 ·exact .inr (.inr (.inr h1))
 ·exact .inr (.inl ⟨h1,h9⟩)
theorem zaK {r:RunV} (h:¬kL r=true):r.over.kind=0∧r.waits=false:=by
 unfold kL at h
 simpa using h
theorem zaM (env:List (Txt × Txt)) {kn:List KnV} (wr:List DoV):∀(n:Nat) {r r':RunV},runN n r=some r'→JF r→OV r→r.env=env→r.known <+: kn→
  Q7 env kn (jV wr r) (jV wr r')∧OV r'∧r'.env=env∧ccR r'≤ccR r∧(r.over.kind=0→r'.over.kind=2→ccR r'<ccR r)
 | 0,r,r',h,_,_,_,_=>by cases h
 | n+1,r,r',h,hi,ho,he,hk=>by
  rw[runN]at h
  by_cases hs:kL r=true
  ·rw[if_pos hs]at h
   cases h
   exact⟨.refl _,ho,he,Nat.le_refl _,fun h1 h2=>by rw[h1]at h2;cases h2⟩
  ·rw[if_neg hs]at h
   obtain⟨h0,hw⟩:=zaK hs
   have hse:=zgh r
   have hst:=gV hi (by simpa using hs)
   obtain⟨g1,g2,g3,g4,g5⟩:=zaM env wr n h hst.1 (hse.ovk ho h0 hw) (hse.en.trans he) (by rw[hst.2.2];exact hk)
   refine⟨(zgD env wr hi he hk hw (ho.zero h0)).trans g1,g2,g3,Nat.le_trans g4 hse.cc,fun _ h2=>?_⟩
   have stuck:(QL r).over.kind≠0→r'=QL r:=fun h1=>by
    have hst2:kL (QL r)=true:=by simp[kL,h1]
    cases n with
    | zero=>cases h
    | succ n=>rw[runN,if_pos hst2]at h;cases h;rfl
   rcases hse.ov with h1|h1|⟨h1,_⟩|⟨h1,_,h3⟩
   ·exact Nat.lt_of_lt_of_le (g5 (by rw[h1];exact h0) h2) hse.cc
   ·rw[stuck (by rw[h1];decide),h1]at h2;cases h2
   ·rw[stuck (by rw[h1];decide),h1]at h2;cases h2
   ·omega
theorem p9 {r:RunV} (h:kL r=true):kI r=r:=by
 unfold kI
 rw[runN,if_pos h];rfl
structure AtR (env:List (Txt × Txt)) (c0:CfV) (kn:List KnV) (wr:List DoV) (r:RunV):Prop where
 inv:JF r
 ov:OV r
 en:r.env=env
 kno:r.known=kn
 runs:∀kn',kn <+: kn'→Q7 env kn' c0 (jV wr r)
theorem AtR.settle {env:List (Txt × Txt)} {c0:CfV} {kn:List KnV} {wr:List DoV} {r:RunV} (h:AtR env c0 kn wr r):AtR env c0 kn wr (kI r)∧ccR (kI r)≤ccR r∧(r.over.kind=0→(kI r).over.kind=2→ccR (kI r)<ccR r):=by
 obtain⟨h1,h2,h3,h4⟩:=yW h.inv
 have hr:=fun kn' (hk:kn <+: kn')=>zaM env wr _ h1 h.inv h.ov h.en (kn:=kn') (by rw[h.kno];exact hk)
 obtain⟨_,g2,g3,g4,g5⟩:=hr kn (List.prefix_refl _)
 exact⟨⟨h2,g2,g3,h4.trans h.kno,fun kn' hk=>(h.runs kn' hk).trans (hr kn' hk).1⟩,g4,g5⟩
structure JB (env:List (Txt × Txt)) (c0:CfV) (kn:List KnV) (wr:List DoV) (r:RunV) (d:DoV):Prop where
 at_:AtR env c0 kn wr r
 stops:kL r=true
 no2:r.over.kind≠2
 waits:d.kind=1↔r.waits=true
 asks:r.waits=true→d=⟨1,r.asks,[],0⟩
 over:r.waits=false→d=r.over
 ref:∃c,Q7 env kn c0 c∧c.st.stop=d∧c.st.stop.kind≠0∧c.st.wrote=wr
theorem AtR.next {env:List (Txt × Txt)} {c0:CfV} {kn:List KnV} {wr:List DoV} {r:RunV} (h:AtR env c0 kn wr r) (h0:r.over.kind≠2) :
  ((w9 r).1.kind=2∧AtR env c0 kn (wr++[(w9 r).1]) (w9 r).2∧ccR (w9 r).2<ccR r∧(w9 r).2.over.kind=0)∨JB env c0 kn wr (w9 r).2 (w9 r).1:=by
 obtain⟨hs,hc,hc2⟩:=h.settle
 have hst:=(yW h.inv).2.2.1
 obtain⟨s,hse⟩:∃s,s=kI r:=⟨_,rfl⟩
 have hn:w9 r=(if s.waits=true then(⟨1,s.asks,[],0⟩,s) else(s.over,if s.over.kind=2 then { s with over:=do0 } else s)):=by rw[hse];rfl
 have hr0:s.over.kind=2→r.over.kind=0:=fun h2=>by
  apply Classical.byContradiction
  intro h3
  have:kL r=true:=by simp[kL,h3]
  rw[hse,p9 this]at h2
  exact h0 h2
 rw[←hse]at hs hc hc2 hst
 rw[hn]
 by_cases hw:s.waits=true
 ·rw[if_pos hw]
  have ho:=hs.ov.2 hw
  rcases hs.inv with⟨_,h2⟩|⟨l,k,p,e,h2,h3,h4,_⟩
  ·rw[hw]at h2;cases h2
  ·obtain⟨g1,g2,g3⟩:=h4 hw
   refine .inr ⟨hs,hst,by rw[ho];decide,by simp[hw],fun _=>rfl,fun e=>(by rw[hw]at e;cases e),?_⟩
   have htd:(jV wr s).td=.ans k p::l.reverse:=by simp[jV,e]
   have hso:(jV wr s).st.stop=do0:=by simp[jV,ho,do0]
   refine⟨_,(hs.runs kn (List.prefix_refl _)).trans (.step (by rw[hso];rfl) (.refl _)),?_⟩
   have hf:zQ kn p=none:=by rw[←hs.kno];exact g2
   simp only[J6,htd,hf,CfV.map,g1]
   exact⟨trivial,by decide,by simp[jV,ho,do0]⟩
 ·rw[if_neg hw]
  have hw':s.waits=false:=by simpa using hw
  have hk0:s.over.kind≠0:=by
   unfold kL at hst
   simpa[hw']using hst
  by_cases h2:s.over.kind=2
  ·rw[if_pos h2]
   refine .inl ⟨h2,⟨?_,⟨.inl rfl,fun _=>rfl⟩,hs.en,hs.kno,fun kn' hk=>?_⟩,hc2 (hr0 h2) h2,rfl⟩
   ·exact hs.inv.of_same rfl rfl rfl rfl rfl rfl
   ·have:=hs.runs kn' hk
    have e:jV (wr++[s.over]) { s with over:=do0 }=jV wr s:=by simp[jV,h2,do0]
    rw[e];exact this
  ·rw[if_neg h2]
   refine .inr ⟨hs,hst,h2,?_,fun e=>absurd e hw,fun _=>rfl,jV wr s,hs.runs kn (List.prefix_refl _),by simp[jV,h2],by simpa[jV,h2]using hk0,by simp[jV,h2]⟩
   constructor
   ·intro e1
    rcases hs.ov.1 with h|⟨h,_⟩|h|⟨h,_⟩
    ·rw[h]at e1;cases e1
    ·simp only at e1;rw[h]at e1;cases e1
    ·rw[h]at e1;cases e1
    ·simp only at e1;rw[h]at e1;cases e1
   ·exact fun e=>absurd e hw
theorem JB.give {env:List (Txt × Txt)} {c0:CfV} {kn:List KnV} {wr:List DoV} {r:RunV} {d:DoV} (h:JB env c0 kn wr r d) (k:KnV) (hw:r.waits=true) (hp:k.path=r.asks) (hd:k.is=true→k.data.length≤65536) :
  (QB k r).1=0∧AtR env c0 (kn++[k]) wr (QB k r).2∧(QB k r).2.over.kind=0∧ccR (QB k r).2=ccR r:=by
 have hi:=zae h.at_.inv k (fun h=>by have:=hd h;omega)
 have ho:=h.at_.ov.2 hw
 have hg:QB k r=(0,{ r with known:=r.known++[k],asks:=[],waits:=false }):=by
  unfold QB
  simp only[p9 h.stops]
  rw[if_neg (by rw[hw];decide),if_neg (by simp[hp]),if_neg (fun h=>by have:=hd h.1;omega)]
 rw[hg]at hi ⊢
 refine⟨rfl,⟨hi,⟨.inl ho,fun e=>by cases e⟩,h.at_.en,by simp only[h.at_.kno],fun kn' hk=>?_⟩,by simp only[ho];rfl,rfl⟩
 have:=h.at_.runs kn' ((List.prefix_append kn [k]).trans hk)
 have e:jV wr { r with known:=r.known++[k],asks:=[],waits:=false }=jV wr r:=by simp[jV,hw,hp,ho,do0]
 rw[e];exact this
end Go.Proofs.YtidhkfcjichiiaaGreatDoor
end
