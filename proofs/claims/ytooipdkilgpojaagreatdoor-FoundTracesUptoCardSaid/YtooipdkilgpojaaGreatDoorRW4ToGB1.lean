/- Where a box stands, as the document says: plain. No condition beyond each theorem's own. -/
import Derived.Test.YtooipdkilgpojaaGreatDoorS2ToRW3
import Derived.Test.YtooipdkilgpojaaGreatDoorP8ToK3
set_option linter.unusedSimpArgs false
set_option linter.unusedVariables false
set_option linter.unusedSectionVars false
section
set_option maxRecDepth 100000
namespace Go.Proofs.YtooipdkilgpojaaGreatDoor
open Go Go.Ab
open Classical
variable [Sel] [SelPow] [SelMax]
theorem Q7.to {env:List (Txt × Txt)} {kn:List KnV} {a b c:CfV} (h:Q7 env kn a b) (g:Q7 env kn a c) (hc:c.st.stop.kind≠0):Q7 env kn b c:=by
 induction h with
 | refl=>exact g
 | step h0 _ ih =>
  cases g with
  | refl=>exact absurd h0 hc
  | step _ g1=>exact ih g1
theorem xJ (t:Txt) (s:StV):(yP t s).wrote=s.wrote:=by unfold yP;split<;>rfl
theorem P4 (p:Txt) (k:CoV) (c:CfV):(VX p k c).st.wrote=c.st.wrote:=by
 unfold VX
 split
 ·rfl
 split<;>rfl
theorem zob (k:CoV) (x:KnV) (c:CfV):(coS k x c).st.wrote=c.st.wrote:=by
 cases k with
 | tr =>
     simp only[coS];split
     ·exact xJ _ _
     ·rfl
 | there t =>
  simp only[coS]
  split
  ·cases t with
   | add=>exact xJ _ _
   | scan w=>rfl
  ·rfl
theorem zjX (env:List (Txt × Txt)) (kn:List KnV) (c:CfV):c.st.wrote <+: (J6 env kn c).st.wrote:=by
 have eq:∀ {d:CfV},d.st.wrote=c.st.wrote→c.st.wrote <+: d.st.wrote:=fun h=>by rw[h];exact List.prefix_refl _
 unfold J6
 split
 ·exact eq rfl
 ·rename_i x l _
  unfold V6
  simp only
  split
  ·exact eq (P4 _ _ _)
  split
  ·exact eq (P4 _ _ _)
  split
  ·exact eq (P4 _ _ _)
  split
  ·exact eq (xJ _ _)
  split
  ·split
   ·exact eq (xJ _ _)
   ·exact eq rfl
  split
  ·exact List.prefix_append _ _
  split
  ·split<;>exact eq rfl
  split
  ·exact eq rfl
  ·exact eq (xJ _ _)
 ·unfold D4
  split
  ·split
   ·exact eq (xJ _ _)
   split
   ·exact eq rfl
   ·exact eq (P4 _ _ _)
  ·exact eq (xJ _ _)
 ·split
  ·exact eq (zob _ _ _)
  ·exact eq rfl
theorem Q7.wrote {env:List (Txt × Txt)} {kn:List KnV} {a b:CfV} (h:Q7 env kn a b):a.st.wrote <+: b.st.wrote:=by
 induction h with
 | refl=>exact List.prefix_refl _
 | step _ _ ih=>exact(zjX _ _ _).trans ih
structure zh5 (env:List (Txt × Txt)) (cs:List CmdV) (lines:List Txt):Prop where
 i:∃i,yC i lines=.ok cs
theorem zh5.stand {env:List (Txt × Txt)} {cs:List CmdV} {lines:List Txt} (h:zh5 env cs lines) {kn:List KnV} {wr:List DoV} {r:RunV} {d:DoV} (hs:JB env (C9 cs) kn wr r d):(Y9 env kn lines st0).stop=d∧(Y9 env kn lines st0).wrote=wr:=by
 obtain⟨i,hi⟩:=h.i
 exact hs.far hi
theorem zh5.at_ {env:List (Txt × Txt)} {cs:List CmdV} {lines:List Txt} (h:zh5 env cs lines) {kn:List KnV} {wr:List DoV} {r:RunV} (hs:AtR env (C9 cs) kn wr r):wr <+: (Y9 env kn lines st0).wrote:=by
 obtain⟨i,hi⟩:=h.i
 obtain⟨c',g1,g2,g3⟩:=P6 (env:=env) (kn:=kn) lines i cs st0 [] hi ⟨rfl,by simp[st0]⟩
 have h1:=hs.runs kn (List.prefix_refl _)
 have h2:=(h1.to g1 g3).wrote
 rw[g2]at h2
 refine List.IsPrefix.trans ?_ h2
 show wr <+: (if r.over.kind=2 then wr++[r.over] else wr)
 split
 ·exact List.prefix_append _ _
 ·exact List.prefix_refl _
inductive zeV (outs:List Txt) (may:Txt→Bool) (f:StV) (b:BoxV):Prop
 | waits:f.stop.kind=1→may f.stop.path=true→b.asks=f.stop.path→b.over=false→b.why=0→b.wrote=f.wrote.map pdW→zeV outs may f b
 | read:f.stop.kind=1→may f.stop.path=false→b.over=true→b.why=13→b.wrote=f.wrote.map pdW→zeV outs may f b
 | ended:f.stop.kind=3→(∀p∈outs,p∈f.wrote.map (·.path))→b.over=true→b.why=0→b.wrote=f.wrote.map pdW→zeV outs may f b
 | short:f.stop.kind=3→¬(∀p∈outs,p∈f.wrote.map (·.path))→b.over=true→b.why=14→b.wrote=f.wrote.map pdW→zeV outs may f b
 | failed:f.stop.kind=4→f.stop.why≠0→b.over=true→b.why=f.stop.why→b.wrote=f.wrote.map pdW→zeV outs may f b
 | wrote (wr:List DoV) (d:DoV):wr++[d] <+: f.wrote→(d.path∈wr.map (·.path)∨d.path∉outs)→b.over=true→b.why=14→zeV outs may f b
def zfw (outs:List Txt) (l:List DoV):Prop:=(l.map (·.path)).Nodup∧∀w∈l,w.path∈outs
theorem WY.far {env:List (Txt × Txt)} {cs:List CmdV} {lines:List Txt} (hl:zh5 env cs lines) {kn:List KnV} {outs:List Txt} {may:Txt→Bool} {wr:List DoV} {b:BoxV} (h:WY env (C9 cs) kn outs may wr b) :
  zeV outs may (Y9 env kn lines st0) b∧((zfw outs (Y9 env kn lines st0).wrote∧b.wrote=(Y9 env kn lines st0).wrote.map pdW)∨(b.over=true∧b.why=14∧¬zfw outs (Y9 env kn lines st0).wrote)):=by
 have hright:zfw outs wr:=⟨h.nod,h.own⟩
 cases h.e with
 | waits d hs h1 hm hw ha ha2 h3 h4 =>
  obtain⟨rfl,rfl⟩:=hl.stand hs
  exact⟨.waits h1 hm ha h3 h4 h.wrote,.inl ⟨hright,h.wrote⟩⟩
 | read d hs h1 hm h3 h4 =>
  obtain⟨rfl,rfl⟩:=hl.stand hs
  exact⟨.read h1 hm h3 h4 h.wrote,.inl ⟨hright,h.wrote⟩⟩
 | ended d hs h1 hm h3 h4 =>
  obtain⟨rfl,rfl⟩:=hl.stand hs
  exact⟨.ended h1 hm h3 h4 h.wrote,.inl ⟨hright,h.wrote⟩⟩
 | short d hs h1 hm h3 h4 =>
  obtain⟨rfl,rfl⟩:=hl.stand hs
  exact⟨.short h1 hm h3 h4 h.wrote,.inl ⟨hright,h.wrote⟩⟩
 | failed d hs h1 hm h3 h4 =>
  obtain⟨rfl,rfl⟩:=hl.stand hs
  exact⟨.failed h1 hm h3 h4 h.wrote,.inl ⟨hright,h.wrote⟩⟩
 | wrote d hs hb h3 h4 =>
  have hp:=hl.at_ hs
  refine⟨.wrote wr d hp hb h3 h4,.inr ⟨h3,h4,fun hr=>?_⟩⟩
  have h5:(wr++[d]).Sublist (Y9 env kn lines st0).wrote:=hp.sublist
  rcases hb with hb|hb
  ·have h6:((wr++[d]).map (·.path)).Nodup:=(h5.map _).nodup hr.1
   rw[List.map_append]at h6
   exact(List.nodup_append.1 h6).2.2 _ hb _ (by simp) rfl
  ·exact hb (hr.2 d (h5.subset (by simp)))
noncomputable def ovF (may:Txt→Bool) (f:StV):Bool:=!(decide (f.stop.kind=1)&&may f.stop.path)
noncomputable def zzs (outs:List Txt) (may:Txt→Bool) (f:StV):Int:=if f.stop.kind=1 then(if may f.stop.path=true then 0 else 13) else if f.stop.kind=3 then(if ∀p∈outs,p∈f.wrote.map (·.path) then 0 else 14) else f.stop.why
theorem zfw.no {outs:List Txt} {l wr:List DoV} {d:DoV} (h:zfw outs l) (hp:wr++[d] <+: l):¬(d.path∈wr.map (·.path)∨d.path∉outs):=by
 obtain⟨t,rfl⟩:=hp
 obtain⟨n1,n2⟩:=h
 rintro(hb|hb)
 ·simp only[List.map_append,List.append_assoc]at n1
  exact(List.nodup_append.1 n1).2.2 _ hb d.path (by simp) rfl
 ·exact hb (n2 d (by simp))
theorem zeV.det {outs:List Txt} {may:Txt→Bool} {f:StV} {b:BoxV} (h:zeV outs may f b) (hR:zfw outs f.wrote):b.over=ovF may f∧b.why=zzs outs may f∧(b.over=false→b.asks=f.stop.path):=by
 cases h with
 | waits h1 h2 h3 h4 h5 h6=>simp[ovF,zzs,h1,h2,h3,h4,h5]
 | read h1 h2 h3 h4 h5=>simp[ovF,zzs,h1,h2,h3,h4]
 | ended h1 h2 h3 h4 h5=>rw[ovF,zzs,if_neg (by rw[h1];decide),if_pos h1,if_pos h2];simp[h1,h3,h4]
 | short h1 h2 h3 h4 h5=>rw[ovF,zzs,if_neg (by rw[h1];decide),if_pos h1,if_neg h2];simp[h1,h3,h4]
 | failed h1 h2 h3 h4 h5=>simp[ovF,zzs,h1,h3,h4]
 | wrote wr d h1 h2 h3 h4=>exact absurd h2 (hR.no h1)
end Go.Proofs.YtooipdkilgpojaaGreatDoor
end
section
set_option maxRecDepth 100000
namespace Go.Proofs.YtooipdkilgpojaaGreatDoor
open Go Go.Ab
open Classical
variable [Sel]
def xU (f:List UInt8→Bool):List UInt8→Bool
 | []=>f []
 | c::cs=>f (c::cs)||xU f cs
def wV:List UInt8→List UInt8→Bool
 | [],s=>s.isEmpty
 | p::ps,s=>if p=42 then xU (wV ps) s else match s with
  | []=>false
  | c::cs=>(decide (p=63)||decide (p=c))&&wV ps cs
theorem XZ (r s:List UInt8):wV (42::r) s=xU (wV r) s:=by
 cases s<;>simp[wV]
def uW:List UInt8→List UInt8→Bool
 | [],[]=>true
 | p::ps,c::cs=>decide (p≠42)&&(decide (p=63)||decide (p=c))&&uW ps cs
 | _,_=>false
theorem KQ (f:List UInt8→Bool):∀s:List UInt8,xU f s=true↔∃n,n≤s.length∧f (s.drop n)=true
 | []=>by
  simp only[xU]
  constructor
  ·exact fun h=>⟨0,by simp,h⟩
  ·rintro⟨n,_,h⟩;simpa using h
 | c::cs=>by
  have ih:=KQ f cs
  simp only[xU,Bool.or_eq_true,ih]
  constructor
  ·rintro(h|⟨n,h1,h2⟩)
   ·exact⟨0,by simp,h⟩
   ·exact⟨n+1,by simp;omega,by simpa using h2⟩
  ·rintro⟨n,h1,h2⟩
   cases n with
   | zero=>exact .inl h2
   | succ n=>exact .inr ⟨n,by simp at h1;omega,by simpa using h2⟩
theorem zee {f:List UInt8→Bool} {s:List UInt8} {k:Nat} (hk:k≤s.length) (h:xU f (s.drop k)=true):xU f s=true:=by
 obtain⟨n,h1,h2⟩:=(KQ f _).1 h
 rw[List.drop_drop]at h2
 rw[List.length_drop]at h1
 exact(KQ f s).2 ⟨k+n,by omega,h2⟩
theorem zgj:∀ {seg u:List UInt8} (r v:List UInt8),uW seg u=true→wV (seg++r) (u++v)=wV r v
 | [],[],r,v,_=>rfl
 | p::ps,c::cs,r,v,h=>by
  simp only[uW,Bool.and_eq_true,decide_eq_true_eq]at h
  have ih:=zgj r v h.2
  simp only[List.cons_append,wV]
  rw[if_neg h.1.1,h.1.2,ih];rfl
theorem zfM:∀ {seg u:List UInt8},uW seg u=true→seg.length=u.length
 | [],[],_=>rfl
 | p::ps,c::cs,h=>by
  simp only[uW,Bool.and_eq_true]at h
  simp[zfM h.2]
theorem zie:∀ {seg u:List UInt8},uW seg u=true→∀p∈seg,p≠42
 | [],[],_=>by simp
 | p::ps,c::cs,h=>by
  simp only[uW,Bool.and_eq_true,decide_eq_true_eq]at h
  intro x hx
  rcases List.mem_cons.1 hx with rfl|hx
  ·exact h.1.1
  ·exact zie h.2 x hx
theorem zcB:∀ {seg u:List UInt8} {p c:UInt8},uW seg u=true→p≠42→(p=63∨p=c)→uW (seg++[p]) (u++[c])=true
 | [],[],p,c,_,h1,h2=>by simp[uW,h1,h2]
 | q::ps,d::cs,p,c,h,h1,h2=>by
  simp only[uW,Bool.and_eq_true]at h
  simp only[List.cons_append,uW,Bool.and_eq_true]
  exact⟨h.1,zcB h.2 h1 h2⟩
theorem zfC:∀ {seg:List UInt8} {r s:List UInt8},(∀p∈seg,p≠42)→wV (seg++r) s=true→seg.length≤s.length∧wV r (s.drop seg.length)=true
 | [],r,s,_,h=>⟨by simp,by simpa using h⟩
 | p::ps,r,s,hn,h=>by
  simp only[List.cons_append,wV]at h
  rw[if_neg (hn p (by simp))]at h
  cases s with
  | nil=>cases h
  | cons c cs =>
   simp only[Bool.and_eq_true]at h
   have:=zfC (fun x hx=>hn x (by simp[hx])) h.2
   exact⟨by simp;omega,by simpa using this.2⟩
theorem zgo:∀r:List UInt8,wV r []=r.all fun c=>decide (c=42)
 | []=>rfl
 | p::ps=>by
  have ih:=zgo ps
  simp only[wV,xU,List.all_cons]
  by_cases h:p=42
  ·simp[h,ih]
  ·simp[h]
inductive uX (p s:List UInt8) (i k:Nat):Option (Nat × Nat)→Prop
 | free:wV p s=wV (p.drop i) (s.drop k)→uX p s i k none
 | star (st a:Nat):p[st]?=some 42→st+1≤i→a≤k→uW ((p.drop (st+1)).take (i-(st+1))) ((s.drop a).take (k-a))=true→wV p s=wV (p.drop st) (s.drop a)→uX p s i k (some (st,a))
theorem yJ {p:List UInt8} {i:Nat} {c:UInt8} (h:p[i]?=some c):p.drop i=c::p.drop (i+1):=by
 obtain⟨h1,rfl⟩:=List.getElem?_eq_some_iff.1 h
 exact(List.getElem_cons_drop h1).symm
theorem zfX (q:List UInt8) (a b:Nat) (h:a≤b):q.drop a=(q.drop a).take (b-a)++q.drop b:=by
 have:=(List.take_append_drop (b-a) (q.drop a)).symm
 rw[List.drop_drop,show a+(b-a)=b by omega]at this
 exact this
theorem zbu {p s:List UInt8} {i k st a:Nat} (h1:p[st]?=some 42) (h2:st+1≤i) (h3:a≤k) (hk:k≤s.length) (hl:uW ((p.drop (st+1)).take (i-(st+1))) ((s.drop a).take (k-a))=true) :
  wV (p.drop st) (s.drop a)=xU (wV (p.drop (st+1))) (s.drop a)∧wV (p.drop (st+1)) (s.drop a)=wV (p.drop i) (s.drop k)∧
  ∀n,n≤(s.drop a).length→wV (p.drop (st+1)) ((s.drop a).drop n)=true→k+n≤s.length∧wV (p.drop i) (s.drop (k+n))=true:=by
 have e1:=zfX p (st+1) i h2
 have e2:=zfX s a k h3
 refine⟨?_,?_,fun n hn h=>?_⟩
 ·rw[yJ h1,XZ]
 ·conv=>lhs;rw[e1,e2]
  exact zgj _ _ hl
 ·rw[e1]at h
  obtain⟨g1,g2⟩:=zfC (zie hl) h
  have hll:=zfM hl
  have e4:((s.drop a).take (k-a)).length=k-a:=by rw[List.length_take,List.length_drop];omega
  rw[hll,e4]at g1 g2
  rw[List.drop_drop,List.drop_drop]at g2
  rw[List.length_drop,List.length_drop]at g1
  rw[show a+(n+(k-a))=k+n by omega]at g2
  rw[List.length_drop]at hn
  exact⟨by omega,g2⟩
theorem uX.toStar {p s:List UInt8} {i k:Nat} {o:Option (Nat × Nat)} (h:uX p s i k o) (hk:k≤s.length) (hc:p[i]?=some 42):uX p s (i+1) k (some (i,k)):=by
 refine .star i k hc (Nat.le_refl _) (Nat.le_refl _) (by simp[uW]) ?_
 cases h with
 | free h=>exact h
 | star st a h1 h2 h3 hl he =>
  obtain⟨g1,g2,g3⟩:=zbu h1 h2 h3 hk hl
  rw[he,g1]
  apply Bool.eq_iff_iff.2
  rw[KQ]
  constructor
  ·rintro⟨n,hn,h⟩
   obtain⟨q1,q2⟩:=g3 n hn h
   rw[yJ hc,XZ]at q2 ⊢
   have q3:xU (wV (p.drop (i+1))) ((s.drop k).drop n)=true:=by rw[List.drop_drop];exact q2
   exact zee (by rw[List.length_drop];omega) q3
  ·intro h
   exact⟨0,by simp,by rw[List.drop_zero,g2];exact h⟩
theorem uX.lit {p s:List UInt8} {i k:Nat} {o:Option (Nat × Nat)} {c d:UInt8} (h:uX p s i k o) (hc:p[i]?=some c) (hd:s[k]?=some d) (h42:c≠42) (hm:c=63∨c=d):uX p s (i+1) (k+1) o:=by
 cases h with
 | free h =>
  refine .free ?_
  rw[h,yJ hc,yJ hd,wV,if_neg h42]
  have:(decide (c=63)||decide (c=d))=true:=by simpa using hm
  rw[this];rfl
 | star st a h1 h2 h3 hl he =>
  refine .star st a h1 (by omega) (by omega) ?_ he
  have hi:=(List.getElem?_eq_some_iff.1 hc).1
  have hk:=(List.getElem?_eq_some_iff.1 hd).1
  have e1:(p.drop (st+1)).take (i+1-(st+1))=(p.drop (st+1)).take (i-(st+1))++[c]:=by
   rw[show i+1-(st+1)=(i-(st+1))+1 by omega,List.take_succ_eq_append_getElem (by rw[List.length_drop];omega)]
   congr 2
   have:=(List.getElem?_eq_some_iff.1 hc).2
   rw[←this,List.getElem_drop]
   congr 1
   omega
  have e2:(s.drop a).take (k+1-a)=(s.drop a).take (k-a)++[d]:=by
   rw[show k+1-a=(k-a)+1 by omega,List.take_succ_eq_append_getElem (by rw[List.length_drop];omega)]
   congr 2
   have:=(List.getElem?_eq_some_iff.1 hd).2
   rw[←this,List.getElem_drop]
   congr 1
   omega
  rw[e1,e2]
  exact zcB hl h42 hm
def zhp (p s:List UInt8) (i k:Nat):Prop:=∃d,s[k]?=some d∧(p.length≤i∨∃c,p[i]?=some c∧c≠42∧c≠63∧c≠d)
theorem zdb {p s:List UInt8} {i k:Nat} (h:zhp p s i k):wV (p.drop i) (s.drop k)=false:=by
 obtain⟨d,hd,h|⟨c,hc,h1,h2,h3⟩⟩:=h
 ·rw[List.drop_of_length_le h,yJ hd];rfl
 ·rw[yJ hc,yJ hd,wV,if_neg h1]
  simp[h2,h3]
theorem uX.back {p s:List UInt8} {i k st a:Nat} (h:uX p s i k (some (st,a))) (hn:zhp p s i k):uX p s (st+1) (a+1) (some (st,a+1)):=by
 obtain⟨d,hd,_⟩:=id hn
 have hk:=(List.getElem?_eq_some_iff.1 hd).1
 have hno:=zdb hn
 cases h with
 | star _ _ h1 h2 h3 hl he =>
  obtain⟨g1,g2,g3⟩:=zbu h1 h2 h3 (by omega) hl
  refine .star st (a+1) h1 (Nat.le_refl _) (Nat.le_refl _) (by simp[uW]) ?_
  rw[he,g1,yJ h1,XZ]
  have ha:s[a]?=some (s[a]'(by omega)):=List.getElem?_eq_getElem _
  rw[←g2,yJ ha]at hno
  rw[yJ ha,xU,hno,Bool.false_or]
theorem uX.no {p s:List UInt8} {i k:Nat} (h:uX p s i k none) (hn:zhp p s i k):wV p s=false:=by
 cases h with
 | free h=>rw[h];exact zdb hn
theorem uX.fin {p s:List UInt8} {i:Nat} {o:Option (Nat × Nat)} (h:uX p s i s.length o):wV p s=(p.drop i).all fun c=>decide (c=42):=by
 rw[←zgo]
 cases h with
 | free h=>rw[h,List.drop_length]
 | star st a h1 h2 h3 hl he =>
  obtain⟨g1,g2,g3⟩:=zbu h1 h2 h3 (Nat.le_refl _) hl
  rw[List.drop_length]at g2
  rw[he,g1]
  apply Bool.eq_iff_iff.2
  rw[KQ]
  constructor
  ·rintro⟨n,hn,h⟩
   obtain⟨q1,q2⟩:=g3 n hn h
   rw[show n=0 by omega,Nat.add_zero,List.drop_length]at q2
   exact q2
  ·intro h
   exact⟨0,by simp,by rw[List.drop_zero,g2];exact h⟩
/-! ### trimmed -/
def K6 (c:UInt8):Nat→List UInt8→List UInt8
 | 0,l=>l
 | n+1,l=>if l.getLast?=some c then K6 c n l.dropLast else l
def WE (c:UInt8):List UInt8→List UInt8
 | []=>[]
 | x::r=>if x=c then WE c r else x::r
def zdz (c:UInt8) (l:List UInt8):List UInt8:=WE c (K6 c l.length l)
theorem zaO {c:UInt8}:∀ {l:List UInt8},WE c l=[]↔(l.all fun x=>decide (x=c))=true
 | []=>by simp[WE]
 | x::r=>by
  have ih:=zaO (c:=c) (l:=r)
  unfold WE
  by_cases h:x=c
  ·rw[if_pos h,ih];simp[h]
  ·rw[if_neg h];simp[h]
theorem za5 {c:UInt8}:∀ {n:Nat} {l:List UInt8},l.length≤n→((K6 c n l).all (fun x=>decide (x=c))=true↔(l.all fun x=>decide (x=c))=true)
 | 0,l,h=>by rfl
 | n+1,l,h=>by
  unfold K6
  split
  ·rename_i hl
   rcases List.eq_nil_or_concat l with rfl|⟨m,x,rfl⟩
   ·cases hl
   ·rw[List.concat_eq_append]at hl h ⊢
    simp only[List.getLast?_append,List.getLast?_singleton,Option.some_or,Option.some.injEq]at hl
    subst hl
    simp only[List.length_append,List.length_singleton]at h
    rw[List.dropLast_concat,za5 (n:=n) (l:=m) (by omega)]
    simp
  ·rfl
theorem zh9 {c:UInt8} {l:List UInt8}:decide (zdz c l=[])=l.all fun x=>decide (x=c):=by
 apply Bool.eq_iff_iff.2
 rw[decide_eq_true_iff,zdz,zaO,za5 (Nat.le_refl _)]
theorem zb6 {c:UInt8}:∀ {n:Nat} {l:List UInt8},(K6 c n l).length≤l.length
 | 0,l=>Nat.le_refl _
 | n+1,l=>by
  unfold K6
  split
  ·have:=zb6 (c:=c) (n:=n) (l:=l.dropLast);simp at this;omega
  ·exact Nat.le_refl _
@[simp] theorem zkI:qZ Tryz.prog 155=true:=by kernel_rfl
@[simp] theorem zqD:z8 Tryz.prog (.func 155)=false:=q9 zkI
@[simp] theorem zml:qZ Tryz.prog 196=true:=by kernel_rfl
@[simp] theorem zq5:z8 Tryz.prog (.func 196)=false:=q9 zml
@[simp] theorem zm5:qZ Tryz.prog 197=true:=by kernel_rfl
@[simp] theorem zpZ:z8 Tryz.prog (.func 197)=false:=q9 zm5
@[simp] theorem zmQ:qZ Tryz.prog 114=true:=by kernel_rfl
@[simp] theorem zqv:z8 Tryz.prog (.func 114)=false:=q9 zmQ
theorem zbI (l:List UInt8) (c:UInt8) (hl:l.length≤1000000000):PC Tryz.prog 197 [.av .str (.s l),.av (.int .u8) (.i .u8 c.toNat)] (.av .str (.s (K6 c l.length l))):=by
 refine PC.of <| q7.of_vc laid mixed Tryz.func197 rfl cf0 (by kernel_rfl) (by simp[Tryz.ntmps197]) fun imm0 w0=>?_
 (simp (disch:=first|omega|assumption) [zz])
 refine AT.loop' (α:=List UInt8) (fun x=>St.of [(0,.av .str (.s x)),(1,.av (.int .u8) (.i .u8 c.toNat))] [] (fun _=>0) []) (fun x=>x.length≤1000000000∧K6 c x.length x=K6 c l.length l) (fun x=>x.length) l ?_ ?_ ?_
 ·refine Le.of ?_ ?_ ?_ ?_ ?_<;>simp[qU,qG,qO,qH,qP,qK,qF,qI,qJ,qN,zX]<;>try omega
 ·exact⟨hl,rfl⟩
 rintro x ⟨hx,hxe⟩ KL hN hE
 refine qM (cf:=cf0) laid mixed _ _ _ (by kernel_rfl) ?_
 rcases List.eq_nil_or_concat x with rfl|⟨m,d,rfl⟩
 ·(simp (disch:=first|omega|assumption) [zz])
  refine hE _ _ (by simp) ?_
  have:K6 c l.length l=[]:=by rw[←hxe];rfl
  (simp (disch:=first|omega|assumption) [zz,Tryz.f197,this])
 ·rw[List.concat_eq_append]at hx hxe ⊢
  simp only[List.length_append,List.length_singleton]at hx hxe
  have hl1:((m++[d]).length:Int)=m.length+1:=by simp
  have h1:(0:Int)<(m.length:Int)+1:=by omega
  have hg:(m++[d])[m.length]?=some d:=by simp
  have hm:(m++[d]).take m.length=m:=by simp
  by_cases hd:d=c
  ·subst hd
   have hst:K6 d (m.length+1) (m++[d])=K6 d m.length m:=by
    rw[K6,if_pos (by simp),List.dropLast_concat]
   (simp (disch:=first|omega|assumption) [zz,h1,hg,hm])
   try (repeat with_reducible refine om ?_)
   refine hN _ m ?_ ⟨by omega,by rw[←hxe,hst]⟩ (by simp)
   refine Le.of ?_ ?_ ?_ ?_ ?_<;>simp[qU,qG,qO,qH,qP,qK,qF,qI,qJ,qN,zX]<;>try omega
  ·have hd':¬(d.toNat:Int)=c.toNat:=fun e=>hd (UInt8.toNat_inj.1 (by omega))
   have hst:K6 c (m.length+1) (m++[d])=m++[d]:=by
    rw[K6,if_neg (by simp[hd])]
   (simp (disch:=first|omega|assumption) [zz,h1,hg,hm,hd'])
   try (repeat with_reducible refine om ?_)
   refine hE _ _ (by simp) ?_
   (simp (disch:=first|omega|assumption) [zz,Tryz.f197,←hxe,hst])
theorem zdO (l:List UInt8) (c:UInt8) (hl:l.length≤1000000000):PC Tryz.prog 196 [.av .str (.s l),.av (.int .u8) (.i .u8 c.toNat)] (.av .str (.s (WE c l))):=by
 refine PC.of <| q7.of_vc laid mixed Tryz.func196 rfl cf0 (by kernel_rfl) (by simp[Tryz.ntmps196]) fun imm0 w0=>?_
 (simp (disch:=first|omega|assumption) [zz])
 refine AT.loop' (α:=List UInt8) (fun x=>St.of [(0,.av .str (.s x)),(1,.av (.int .u8) (.i .u8 c.toNat))] [] (fun _=>0) []) (fun x=>x.length≤1000000000∧WE c x=WE c l) (fun x=>x.length) l ?_ ?_ ?_
 ·refine Le.of ?_ ?_ ?_ ?_ ?_<;>simp[qU,qG,qO,qH,qP,qK,qF,qI,qJ,qN,zX]<;>try omega
 ·exact⟨hl,rfl⟩
 rintro x ⟨hx,hxe⟩ KL hN hE
 refine qM (cf:=cf0) laid mixed _ _ _ (by kernel_rfl) ?_
 cases x with
 | nil =>
  (simp (disch:=first|omega|assumption) [zz])
  refine hE _ _ (by simp) ?_
  have:WE c l=[]:=by rw[←hxe];rfl
  (simp (disch:=first|omega|assumption) [zz,Tryz.f196,this])
 | cons d m =>
  simp only[List.length_cons]at hx
  have h1:(0:Int)<(m.length:Int)+1:=by omega
  by_cases hd:d=c
  ·subst hd
   have hst:WE d (d::m)=WE d m:=by rw[WE,if_pos rfl]
   (simp (disch:=first|omega|assumption) [zz,h1])
   try (repeat with_reducible refine om ?_)
   refine hN _ m ?_ ⟨by omega,by rw[←hxe,hst]⟩ (by simp)
   refine Le.of ?_ ?_ ?_ ?_ ?_<;>simp[qU,qG,qO,qH,qP,qK,qF,qI,qJ,qN,zX]<;>try omega
  ·have hd':¬(d.toNat:Int)=c.toNat:=fun e=>hd (UInt8.toNat_inj.1 (by omega))
   have hst:WE c (d::m)=d::m:=by rw[WE,if_neg hd]
   (simp (disch:=first|omega|assumption) [zz,h1,hd'])
   try (repeat with_reducible refine om ?_)
   refine hE _ _ (by simp) ?_
   (simp (disch:=first|omega|assumption) [zz,Tryz.f196,←hxe,hst])
theorem zkH (l:List UInt8) (hl:l.length≤1000000000):PC Tryz.prog 155 [.av .str (.s l),.av .str (.s [42])] (.av .str (.s (zdz 42 l))):=by
 refine PC.of <| q7.of_vc laid mixed Tryz.func155 rfl cf0 (by kernel_rfl) (by simp[Tryz.ntmps155]) fun imm0 w0=>?_
 by_cases h0:l=[]
 ·subst h0
  have:zdz 42 []=[]:=rfl
  (simp (disch:=first|omega|assumption) [zz,Tryz.f155,this])
 ·have hr:=zb6 (c:=42) (n:=l.length) (l:=l)
  (simp (disch:=first|omega|assumption) [zz,h0])
  refine jC (zbI l 42 hl) rfl rfl (by simp) (by simp[qS,coC,TV.er,AV.er]) ?_;(simp (disch:=first|omega|assumption) [zz])
  refine jC (zdO (K6 42 l.length l) 42 (by omega)) rfl rfl (by simp) (by simp[qS,coC,TV.er,AV.er]) ?_;(simp (disch:=first|omega|assumption) [zz,Tryz.f155,zdz])
def stV:Option (Nat × Nat)→Int × Int
 | none=>(-1,0)
 | some (st,a)=>(st,a)
def stM (n m:Nat):Option (Nat × Nat)→Nat
 | none=>n*(n+m+1)
 | some (_,a)=>(n-a)*(n+m+1)
set_option maxHeartbeats 1000000 in
theorem zom (p s:List UInt8) (hp:p.length≤1000000000) (hs:s.length≤1000000000):PC Tryz.prog 114 [.av .str (.s p),.av .str (.s s)] (.av .bool (.b (wV p s))):=by
 refine PC.of <| q7.of_vc laid mixed Tryz.func114 rfl cf0 (by kernel_rfl) (by simp[Tryz.ntmps114]) fun imm0 w0=>?_
 (simp (disch:=first|omega|assumption) [zz])
 refine AT.loop' (α:=Nat × Nat × Option (Nat × Nat)) (fun x=>St.of [(0,.av .str (.s p)),(1,.av .str (.s s)),(5,.av (.int .i64) (.i .i64 x.1)),(6,.av (.int .i64) (.i .i64 x.2.1)),(7,.av (.int .i64) (.i .i64 (stV x.2.2).1)),(8,.av (.int .i64) (.i .i64 (stV x.2.2).2))] [] (fun _=>0) [])
  (fun x=>x.1≤p.length∧x.2.1≤s.length∧uX p s x.1 x.2.1 x.2.2) (fun x=>stM s.length p.length x.2.2+(s.length-x.2.1)+(p.length-x.1)) (0,0,none) ?_ ?_ ?_
 ·refine Le.of ?_ ?_ ?_ ?_ ?_<;>simp[qU,qG,qO,qH,qP,qK,qF,qI,qJ,qN,stV]<;>try omega
 ·exact⟨by simp,by simp,.free (by simp)⟩
 rintro⟨i,k,o⟩ ⟨hi,hk,hO⟩ KL hN hE
 simp only at hi hk hO hN
 refine qM (cf:=cf0) laid mixed _ _ _ (by kernel_rfl) ?_
 by_cases hks:k<s.length
 rotate_left
 ·have hks':¬(k:Int)<s.length:=by omega
  have hke:k=s.length:=by omega
  subst hke
  have hfin:=hO.fin
  rw[←zh9]at hfin
  have hdl:(p.drop i).length≤1000000000:=by rw[List.length_drop];omega
  (simp (disch:=first|omega|assumption) [zz,hks'])
  refine hE _ _ (by simp) ?_
  (simp (disch:=first|omega|assumption) [zz])
  (repeat with_reducible refine om ?_)
  refine qL (zkH (p.drop i) hdl) rfl rfl (by simp) (by simp[qS,coC,TV.er,AV.er]) ?_
  (simp (disch:=first|omega|assumption) [zz,Tryz.f114,hfin])
 have hks':(k:Int)<s.length:=by omega
 have hd:s[k]?=some s[k]:=List.getElem?_eq_getElem hks
 obtain⟨d,hdd⟩:∃d,d=s[k]:=⟨_,rfl⟩
 have hsd:s[k]=d:=hdd.symm
 rw[←hdd]at hd
  -- what happens where it doesn't go on
 have hno:∀(Q:zhp p s i k),True:=fun _=>trivial
 by_cases hip:i<p.length
 rotate_left
 ·have hip':¬(i:Int)<p.length:=by omega
  have hng:zhp p s i k:=⟨d,hd,.inl (by omega)⟩
  cases o with
  | none =>
   have hf:=hO.no hng
   (simp (disch:=first|omega|assumption) [zz,hks',hip',stV])
   refine hE _ _ (by simp) ?_
   (simp (disch:=first|omega|assumption) [zz,Tryz.f114,hf])
  | some sa =>
   obtain⟨st,a⟩:=sa
   have hb:=hO.back hng
   have ha:a≤k:=by cases hO;assumption
   have hst:st<p.length:=by cases hO with|star _ _ h1=>exact(List.getElem?_eq_some_iff.1 h1).1
   have h0:(0:Int)≤st:=by omega
   (simp (disch:=first|omega|assumption) [zz,hks',hip',stV,h0])
   refine hN _ (st+1,a+1,some (st,a+1)) ?_ ⟨by simp only;omega,by simp only;omega,hb⟩ ?_
   ·refine Le.of ?_ ?_ ?_ ?_ ?_<;>simp[qU,qG,qO,qH,qP,qK,qF,qI,qJ,qN,stV]<;>try omega
   ·simp only[stM]
    have e:s.length-a=(s.length-(a+1))+1:=by omega
    rw[e,Nat.succ_mul]
    omega
 have hip':(i:Int)<p.length:=by omega
 have hc:p[i]?=some p[i]:=List.getElem?_eq_getElem hip
 obtain⟨c,hcc⟩:∃c,c=p[i]:=⟨_,rfl⟩
 have hpc:p[i]=c:=hcc.symm
 rw[←hcc]at hc
 by_cases h42:c=42
 ·subst h42
  have hn:=hO.toStar hk hc
  (simp (disch:=first|omega|assumption) [zz,hks',hip',hpc])
  (repeat with_reducible refine om ?_)
  refine hN _ (i+1,k,some (i,k)) ?_ ⟨by omega,hk,hn⟩ ?_
  ·refine Le.of ?_ ?_ ?_ ?_ ?_<;>simp[qU,qG,qO,qH,qP,qK,qF,qI,qJ,qN,stV]<;>try omega
  ·have:stM s.length p.length (some (i,k))≤stM s.length p.length o:=by
    cases o with
    | none=>simp only[stM];exact Nat.mul_le_mul_right _ (by omega)
    | some sa =>
     obtain⟨st,a⟩:=sa
     have ha:a≤k:=by cases hO;assumption
     simp only[stM];exact Nat.mul_le_mul_right _ (by omega)
   simp only
   omega
 have h42':¬(c.toNat:Int)=42:=by have:=YH (n:=42) (by omega) h42;simpa using this
 by_cases hm:c=63∨c=d
 ·have hn:=hO.lit hc hd h42 hm
  have go:KL .normal=KL .normal:=rfl
  rcases Classical.em (c=63)with h63|h63
  ·subst h63
   (simp (disch:=first|omega|assumption) [zz,hks',hip',hpc])
   (repeat with_reducible refine om ?_)
   refine hN _ (i+1,k+1,o) ?_ ⟨by simp only;omega,by simp only;omega,hn⟩ (by simp only;omega)
   refine Le.of ?_ ?_ ?_ ?_ ?_<;>simp[qU,qG,qO,qH,qP,qK,qF,qI,qJ,qN,stV]<;>try omega
  ·have hcd:c=d:=hm.resolve_left h63
   subst hcd
   have h63':¬(c.toNat:Int)=63:=by have:=YH (n:=63) (by omega) h63;simpa using this
   (simp (disch:=first|omega|assumption) [zz,hks',hip',hpc,hsd,h42',h63'])
   (repeat with_reducible refine om ?_)
   refine hN _ (i+1,k+1,o) ?_ ⟨by simp only;omega,by simp only;omega,hn⟩ (by simp only;omega)
   refine Le.of ?_ ?_ ?_ ?_ ?_<;>simp[qU,qG,qO,qH,qP,qK,qF,qI,qJ,qN,stV]<;>try omega
 ·have h63:¬c=63:=fun e=>hm (.inl e)
  have hcd:¬c=d:=fun e=>hm (.inr e)
  have h63':¬(c.toNat:Int)=63:=by have:=YH (n:=63) (by omega) h63;simpa using this
  have hcd':¬(c.toNat:Int)=d.toNat:=fun e=>hcd (UInt8.toNat_inj.1 (by omega))
  have hng:zhp p s i k:=⟨d,hd,.inr ⟨c,hc,h42,h63,hcd⟩⟩
  cases o with
  | none =>
   have hf:=hO.no hng
   (simp (disch:=first|omega|assumption) [zz,hks',hip',hpc,hsd,h42',h63',hcd',stV])
   (repeat with_reducible refine om ?_)
   refine hE _ _ (by simp) ?_
   (simp (disch:=first|omega|assumption) [zz,Tryz.f114,hf])
  | some sa =>
   obtain⟨st,a⟩:=sa
   have hb:=hO.back hng
   have ha:a≤k:=by cases hO;assumption
   have hst:st<p.length:=by cases hO with|star _ _ h1=>exact(List.getElem?_eq_some_iff.1 h1).1
   have h0:(0:Int)≤st:=by omega
   (simp (disch:=first|omega|assumption) [zz,hks',hip',hpc,hsd,h42',h63',hcd',stV,h0])
   (repeat with_reducible refine om ?_)
   refine hN _ (st+1,a+1,some (st,a+1)) ?_ ⟨by simp only;omega,by simp only;omega,hb⟩ ?_
   ·refine Le.of ?_ ?_ ?_ ?_ ?_<;>simp[qU,qG,qO,qH,qP,qK,qF,qI,qJ,qN,stV]<;>try omega
   ·simp only[stM]
    have e:s.length-a=(s.length-(a+1))+1:=by omega
    rw[e,Nat.succ_mul]
    omega
end Go.Proofs.YtooipdkilgpojaaGreatDoor
end
