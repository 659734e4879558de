/- The document's tool, command by command: plain. No condition. -/
import Derived.Test.YtdkieabmeiojjaaGreatDoorPZToBX1
set_option linter.unusedSimpArgs false
set_option linter.unusedVariables false
set_option linter.unusedSectionVars false
set_option maxHeartbeats 64000000
set_option maxRecDepth 100000
namespace Go.Proofs.YtdkieabmeiojjaaGreatDoor
open Go Go.Ab
open Classical
section
variable [Sel] [SelPow] [SelMax]
def zgd (l:List Txt):Txt:=l.flatMap (·++[10])
noncomputable def pN (env:List (Txt × Txt)) (kn:List KnV) (line:Txt) (ws:List Txt) (s:StV):StV :=
 let w:=ws.getD 0 []
 let arg:=ws.getD 1 []
 if w=zU\/w=wF then
  (
   if (yM kn arg s).1.stop.kind≠0 then(yM kn arg s).1
   else if (yM kn arg s).2.is=true then yZ (yM kn arg s).2.data (yM kn arg s).1
   else if w=zU then QD 10 (yM kn arg s).1 else(yM kn arg s).1)
 else if w=jM then(zdB kn (ws.getD 2 []) 501 arg s []).1
 else if w=jZ then yZ (gP line++[10]) s
 else if w=Q3 then(match env.find? fun x=>decide (x.1=arg)with
  | some x=>yZ x.2 s
  | none=>QD 10 s)
 else if w=QF then QD 15 s
 else if w=kF then(if ((qU s.buf).filter fun x=>Lib.contains x arg)=[] then QD 15 s else s)
 else if w=y3 then yZ (zgd ((qU s.buf).filter fun x=>Lib.contains x arg)) { s with buf:=[] }
 else if w=jN then { s with wrote:=s.wrote++[⟨2,arg,s.buf,0⟩],buf:=[] }
 else yZ (cM w arg s.buf) { s with buf:=[] }
noncomputable def XZ (env:List (Txt × Txt)) (kn:List KnV):List Txt->StV->StV
 | [],s=>{ s with stop:=⟨3,[],[],0⟩ }
 | x::r,s=>if G7 (zG x)=true then XZ env kn r s
  else if (pN env kn x (zG x) s).stop.kind≠0 then pN env kn x (zG x) s
  else XZ env kn r (pN env kn x (zG x) s)
structure pH (s:StV):Prop where
 stop:s.stop=do0
 len:s.asked.length<=500
theorem pH.d {s:StV} (h:pH s):zas s []:=⟨h.stop,List.nodup_nil,by simp,h.len⟩
theorem pH.of {s s':StV} (h:pH s) (h1:s'.stop=s.stop) (h2:s'.asked=s.asked):pH s':=⟨h1.trans h.stop,by rw[h2];exact h.len⟩
theorem dL {t:Txt} {s:StV} (h:pH s) (hk:(yZ t s).stop.kind=0):pH (yZ t s):=by
 unfold yZ at hk |-
 split
 ·simp_all[QD]
 ·exact⟨h.stop,h.len⟩
structure zn1 (env:List (Txt × Txt)) (kn:List KnV) (c:CfV) (td:List TdV) (r:StV):Prop where
 go:r.stop.kind=0->pH r/\∃d',QA env kn c ⟨td,r,d'⟩
 stop:r.stop.kind≠0->∃td' d',QA env kn c ⟨td',r,d'⟩
theorem zn1.one {env:List (Txt × Txt)} {kn:List KnV} {x:CmdV} {td:List TdV} {s r:StV} {d d':List Txt} (h:pH s) (e:VU env x ⟨td,s,d⟩=⟨td,r,d'⟩) (hi:r.stop.kind=0->pH r):zn1 env kn ⟨.cmd x::td,s,d⟩ td r:=by
 have hk0:s.stop.kind=0:=by rw[h.stop];rfl
 have hr:QA env kn ⟨.cmd x::td,s,d⟩ ⟨td,r,d'⟩:=by
  refine .step hk0 ?_
  have:JJ env kn ⟨.cmd x::td,s,d⟩=VU env x ⟨td,s,d⟩:=rfl
  rw[this,e];exact .refl _
 exact⟨fun hk=>⟨hi hk,d',hr⟩,fun _=>⟨td,d',hr⟩⟩
theorem zal {s:Txt} {c:CmdV} (h:ZA s=some (some c)):∃w ws,zG s=w::ws/\¬w.head?=some 35/\c.words.getD 0 []=w/\((w=jZ/\c.rest=gP s)\/(w≠jZ/\c.words=w::ws/\VJ (zG s)=true)):=by
 unfold ZA at h
 cases hw:zG s with
 | nil=>simp_all
 | cons w ws =>
  rw[hw]at h
  simp only at h
  split at h
  ·simp at h
  rename_i h1
  refine⟨w,ws,rfl,h1,?_⟩
  split at h
  ·rename_i h2
   simp only[Option.some.injEq]at h
   subst h
   refine⟨rfl,.inl ⟨h2,?_⟩⟩
   grind [zda]
  split at h
  ·simp at h
  ·rename_i h2 h3
   simp only[Option.some.injEq]at h
   have hg:VJ (zG s)=true:=by
    cases hb:VJ (zG s)with
    | true=>rfl
    | false =>
     have:=(vL s).2 hb
     simp_all[ZA]
   grind
theorem zfx {α:Type} (g:α->Bool) (l:List α):(l.any g=true)<->¬(l.filter g=[]):=by
 simp
theorem zj0 {env:List (Txt × Txt)} {kn:List KnV} {line:Txt} {c:CmdV} (hc:ZA line=some (some c)) (td:List TdV) {s:StV} (d:List Txt) (h:pH s):zn1 env kn ⟨.cmd c::td,s,d⟩ td (pN env kn line (zG line) s):=by
 have hk0:s.stop.kind=0:=by rw[h.stop];rfl
 obtain⟨w,ws,hw,hh,hc0,hcase⟩:=zal hc
 rw[hw]
 have hst:JJ env kn ⟨.cmd c::td,s,d⟩=VU env c ⟨td,s,d⟩:=rfl
 have h1st:QA env kn ⟨.cmd c::td,s,d⟩ (VU env c ⟨td,s,d⟩):=.step hk0 (by rw[hst];exact .refl _)
 unfold pN
 simp only[List.getD_cons_zero]
 rcases hcase with⟨ht,hrest⟩|⟨ht,hcw,hg⟩
 ·-- a text
  subst ht
  have e:VU env c ⟨td,s,d⟩=⟨td,yZ (gP line++[10]) s,d⟩:=by
   unfold VU
   simp only[hc0,hrest]
   rfl
  rw[if_neg (by decide),if_neg (by decide),if_pos rfl]
  exact .one h e (dL h)
 have ha:c.words.getD 1 []=(w::ws).getD 1 []:=by rw[hcw]
 have ha2:c.words.getD 2 []=(w::ws).getD 2 []:=by rw[hcw]
 obtain⟨arg,harg⟩:∃arg,arg=(w::ws).getD 1 []:=⟨_,rfl⟩
 obtain⟨arg2,harg2⟩:∃arg,arg=(w::ws).getD 2 []:=⟨_,rfl⟩
 rw[<-harg]at ha |-
 rw[<-harg2]at ha2 |-
 have hcmd:VU env c ⟨td,s,d⟩=_:=rfl
 conv at hcmd=>rhs;unfold VU
 simp only[hc0,ha,ha2]at hcmd
 by_cases h1:w=zU\/w=wF
 ·rw[if_pos h1]
  have key:∀co:CoV,(co=.there .add/\w=zU)\/(co=.tr/\w≠zU)->VU env c ⟨td,s,d⟩=GD arg co ⟨td,s,d⟩->zn1 env kn ⟨.cmd c::td,s,d⟩ td (if (yM kn arg s).1.stop.kind≠0 then(yM kn arg s).1 else if (yM kn arg s).2.is=true then yZ (yM kn arg s).2.data (yM kn arg s).1 else if w=zU then QD 10 (yM kn arg s).1 else(yM kn arg s).1):=by
   intro co hco e
   rw[e]at h1st
   rcases zkB env kn arg co ⟨td,s,d⟩ hk0 h.len with⟨k,g1,g2,g3,g4,g5,g6,g7⟩|⟨g1,td',g2⟩
   ·simp only at g1 g3 g4 g5 g6 g7
    have hk:(yM kn arg s).2=k:=by rw[g1]
    have hi1:pH (yM kn arg s).1:=⟨g3.trans h.stop,g6⟩
    rw[if_neg (by grind),hk]
    have hr:=h1st.trans g7
    cases his:k.is with
    | true =>
     rw[if_pos rfl]
     have e2:coS co k ⟨td,(yM kn arg s).1,d⟩=⟨td,yZ k.data (yM kn arg s).1,d⟩:=by
      rcases hco with⟨rfl,_⟩|⟨rfl,_⟩<;>simp[coS,his,thS,CfV.map]
     rw[e2]at hr
     exact⟨fun hk=>⟨dL hi1 hk,d,hr⟩,fun _=>⟨td,d,hr⟩⟩
    | false =>
     rw[if_neg (by decide)]
     rcases hco with⟨rfl,hw⟩|⟨rfl,hw⟩
     ·rw[if_pos hw]
      have e2:coS (.there .add) k ⟨td,(yM kn arg s).1,d⟩=⟨td,QD 10 (yM kn arg s).1,d⟩:=by grind [coS,CfV.map]
      rw[e2]at hr
      exact⟨fun hk=>by grind [QD],fun _=>⟨td,d,hr⟩⟩
     ·rw[if_neg hw]
      have e2:coS .tr k ⟨td,(yM kn arg s).1,d⟩=⟨td,(yM kn arg s).1,d⟩:=by grind [coS]
      rw[e2]at hr
      exact⟨fun hk=>⟨hi1,d,hr⟩,fun _=>⟨td,d,hr⟩⟩
   ·simp only at g1 g2
    rw[if_pos g1]
    exact⟨fun hk=>absurd hk g1,fun _=>⟨td',d,h1st.trans g2⟩⟩
  grind
 rw[if_neg h1]
 simp only[not_or]at h1
 rw[if_neg h1.1,if_neg h1.2]at hcmd
 by_cases h2:w=jM
 ·rw[if_pos h2]at hcmd |-
  rw[hcmd]at h1st
  have hsc:=zdZ (env:=env) (kn:=kn) (w:=arg2) 501 arg s [] td h.d (by simp) (by simp)
  refine⟨fun hk=>?_,fun hk=>?_⟩
  ·obtain⟨g1,g2⟩:=hsc.go hk
   exact⟨⟨g1.stop,g1.len⟩,_,h1st.trans g2⟩
  ·obtain⟨td',d',g2⟩:=hsc.stop hk
   exact⟨td',d',h1st.trans g2⟩
 rw[if_neg h2]at hcmd |-
 rw[if_neg ht]at hcmd |-
 by_cases h3:w=Q3
 ·rw[if_pos h3]at hcmd |-
  cases hf:env.find? fun x=>decide (x.1=arg)with
  | some x =>
   rw[hf]at hcmd
   exact .one h hcmd (dL h)
  | none =>
   rw[hf]at hcmd
   exact .one h hcmd fun hk=>by grind [QD]
 rw[if_neg h3]at hcmd |-
 by_cases h4:w=jN
 ·rw[if_pos h4]at hcmd
  rw[if_neg (by rw[h4];decide),if_neg (by rw[h4];decide),if_neg (by rw[h4];decide),if_pos h4]
  exact .one h hcmd fun _=>⟨h.stop,h.len⟩
 rw[if_neg h4]at hcmd
 by_cases h5:w=kF
 ·rw[if_pos h5]at hcmd
  rw[if_neg (by rw[h5];decide),if_pos h5]
  have hfa:=zfx (fun x=>Lib.contains x arg) (qU s.buf)
  by_cases hb:(qU s.buf).any (fun x=>Lib.contains x arg)=true
  ·rw[if_pos hb]at hcmd
   rw[if_neg (hfa.1 hb)]
   exact .one h hcmd fun _=>h
  ·rw[if_neg hb]at hcmd
   rw[if_pos (Classical.byContradiction fun e=>hb (hfa.2 e))]
   exact .one h hcmd fun hk=>by grind [QD]
 rw[if_neg h5]at hcmd
 by_cases h6:w=QF
 ·rw[if_pos h6]at hcmd |-
  exact .one h hcmd fun hk=>by grind [QD]
 rw[if_neg h6]at hcmd |-
 rw[if_neg h5]
 by_cases h7:w=y3
 ·rw[if_pos h7]
  have e:cM w arg s.buf=zgd ((qU s.buf).filter fun x=>Lib.contains x arg):=by
   unfold cM zgd
   rw[if_neg (by rw[h7];decide),if_neg (by rw[h7];decide),if_neg (by rw[h7];decide),if_neg (by rw[h7];decide),if_pos h7]
  have hcmd':VU env c ⟨td,s,d⟩=⟨td,yZ (cM w arg s.buf) { s with buf:=[] },d⟩:=hcmd
  rw[e]at hcmd'
  exact .one h hcmd' (dL ⟨h.stop,h.len⟩)
 rw[if_neg h7,if_neg h4]
 exact .one h hcmd (dL ⟨h.stop,h.len⟩)
theorem d6 {env:List (Txt × Txt)} {kn:List KnV}:∀(l:List Txt) (i:Nat) (cs:List CmdV) (s:StV) (d:List Txt),yF i l=.ok cs->pH s->∃c',QA env kn ⟨cs.map .cmd,s,d⟩ c'/\c'.st=XZ env kn l s/\c'.st.stop.kind≠0
 | [],i,cs,s,d,hc,h=>by
  cases hc
  have hk0:s.stop.kind=0:=by rw[h.stop];rfl
  exact⟨_,.step hk0 (.refl _),rfl,by simp[JJ,CfV.map]⟩
 | x::r,i,cs,s,d,hc,h=>by
  rw[yF]at hc
  rw[XZ]
  cases hr:ZA x with
  | none=>simp_all
  | some y =>
   rw[hr]at hc
   cases y with
   | none =>
    simp only at hc
    have hp:G7 (zG x)=true:=by
     grind [ZA,G7]
    rw[if_pos hp]
    exact d6 r (i+1) cs s d hc h
   | some c =>
    simp only at hc
    cases hcs:yF (i+1) r with
    | error e=>simp_all
    | ok l =>
     rw[hcs]at hc
     simp only at hc
     cases hc
     obtain⟨w,ws,hw,hh,_⟩:=zal hr
     have hp:¬G7 (zG x)=true:=by simp_all[G7]
     rw[if_neg hp]
     have hs:=zj0 (env:=env) (kn:=kn) hr (l.map .cmd) d h
     by_cases hk:(pN env kn x (zG x) s).stop.kind≠0
     ·rw[if_pos hk]
      obtain⟨td',d',g⟩:=hs.stop hk
      grind
     ·rw[if_neg hk]
      obtain⟨g1,d',g2⟩:=hs.go (by omega)
      obtain⟨c',g3,g4,g5⟩:=d6 r (i+1) l _ d' hcs g1
      exact⟨c',g2.trans g3,g4,g5⟩
theorem JP.far {env:List (Txt × Txt)} {cs:List CmdV} {kn:List KnV} {wr:List DoV} {r:qG} {dd:DoV} {lines:List Txt} {i:Nat} (h:JP env (zcz cs) kn wr r dd) (hc:yF i lines=.ok cs) :
  (XZ env kn lines st0).stop=dd/\(XZ env kn lines st0).wrote=wr:=by
 obtain⟨c,h1,h2,h3,h4⟩:=h.ref
 obtain⟨c',g1,g2,g3⟩:=d6 (env:=env) (kn:=kn) lines i cs st0 [] hc ⟨rfl,by simp[st0]⟩
 have:=QA.det h1 g1 h3 g3
 simp_all
theorem QA.to {env:List (Txt × Txt)} {kn:List KnV} {a b c:CfV} (h:QA env kn a b) (g:QA env kn a c) (hc:c.st.stop.kind≠0):QA env kn b c:=by
 induction h with
 | refl=>exact g
 | step h0 _ ih =>
  cases g with
  | refl=>omega
  | step _ g1=>exact ih g1
theorem X5 (t:Txt) (s:StV):(yZ t s).wrote=s.wrote:=by unfold yZ;split<;>rfl
theorem dE (p:Txt) (k:CoV) (c:CfV):(GD p k c).st.wrote=c.st.wrote:=by
 unfold GD
 split
 ·rfl
 split<;>rfl
theorem zoa (k:CoV) (x:KnV) (c:CfV):(coS k x c).st.wrote=c.st.wrote:=by
 cases k with
 | tr =>
     simp only[coS];split
     ·exact X5 _ _
     ·rfl
 | there t =>
  simp only[coS]
  split
  ·cases t with
   | add=>exact X5 _ _
   | scan w=>rfl
  ·rfl
theorem zls (env:List (Txt × Txt)) (kn:List KnV) (c:CfV):c.st.wrote <+: (JJ env kn c).st.wrote:=by
 have eq:∀ {d:CfV},d.st.wrote=c.st.wrote->c.st.wrote <+: d.st.wrote:=fun h=>by simp_all
 unfold JJ
 split
 ·exact eq rfl
 ·rename_i x l _
  unfold VU
  simp only
  split
  ·simp[dE]
  split
  ·simp[dE]
  split
  ·exact eq (dE _ _ _)
  split
  ·exact eq (X5 _ _)
  split
  ·split
   ·exact eq (X5 _ _)
   ·exact eq rfl
  split
  ·exact List.prefix_append _ _
  split
  ·split<;>exact eq rfl
  split
  ·exact eq rfl
  ·exact eq (X5 _ _)
 ·unfold DJ
  split
  ·split
   ·exact eq (X5 _ _)
   split
   ·exact eq rfl
   ·exact eq (dE _ _ _)
  ·exact eq (X5 _ _)
 ·split
  ·simp[zoa]
  ·exact eq rfl
theorem QA.wrote {env:List (Txt × Txt)} {kn:List KnV} {a b:CfV} (h:QA env kn a b):a.st.wrote <+: b.st.wrote:=by
 induction h with
 | refl=>simp
 | step _ _ ih=>grind [zls]
structure zil (env:List (Txt × Txt)) (cs:List CmdV) (lines:List Txt):Prop where
 i:∃i,yF i lines=.ok cs
theorem zil.stand {env:List (Txt × Txt)} {cs:List CmdV} {lines:List Txt} (h:zil env cs lines) {kn:List KnV} {wr:List DoV} {r:qG} {d:DoV} (hs:JP env (zcz cs) kn wr r d):(XZ env kn lines st0).stop=d/\(XZ env kn lines st0).wrote=wr:=by
 obtain⟨i,hi⟩:=h.i
 exact hs.far hi
theorem zil.at_ {env:List (Txt × Txt)} {cs:List CmdV} {lines:List Txt} (h:zil env cs lines) {kn:List KnV} {wr:List DoV} {r:qG} (hs:AtR env (zcz cs) kn wr r):wr <+: (XZ env kn lines st0).wrote:=by
 obtain⟨i,hi⟩:=h.i
 obtain⟨c',g1,g2,g3⟩:=d6 (env:=env) (kn:=kn) lines i cs st0 [] hi ⟨rfl,by simp[st0]⟩
 have h1:=hs.runs kn (List.prefix_refl _)
 have h2:=(h1.to g1 g3).wrote
 rw[g2]at h2
 refine List.IsPrefix.trans ?_ h2
 show wr <+: (if r.over.kind=2 then wr++[r.over] else wr)
 grind
inductive zft (outs:List Txt) (may:Txt->Bool) (f:StV) (b:zJ):Prop
 | waits:f.stop.kind=1->may f.stop.path=true->b.asks=f.stop.path->b.over=false->b.why=0->b.wrote=f.wrote.map pdW->zft outs may f b
 | read:f.stop.kind=1->may f.stop.path=false->b.over=true->b.why=13->b.wrote=f.wrote.map pdW->zft outs may f b
 | ended:f.stop.kind=3->(∀p∈outs,p∈f.wrote.map (·.path))->b.over=true->b.why=0->b.wrote=f.wrote.map pdW->zft outs may f b
 | short:f.stop.kind=3->¬(∀p∈outs,p∈f.wrote.map (·.path))->b.over=true->b.why=14->b.wrote=f.wrote.map pdW->zft outs may f b
 | failed:f.stop.kind=4->f.stop.why≠0->b.over=true->b.why=f.stop.why->b.wrote=f.wrote.map pdW->zft outs may f b
 | wrote (wr:List DoV) (d:DoV):wr++[d] <+: f.wrote->(d.path∈wr.map (·.path)\/d.path∉outs)->b.over=true->b.why=14->zft outs may f b
def zfn (outs:List Txt) (l:List DoV):Prop:=(l.map (·.path)).Nodup/\∀w∈l,w.path∈outs
theorem X4.far {env:List (Txt × Txt)} {cs:List CmdV} {lines:List Txt} (hl:zil env cs lines) {kn:List KnV} {outs:List Txt} {may:Txt->Bool} {wr:List DoV} {b:zJ} (h:X4 env (zcz cs) kn outs may wr b) :
  zft outs may (XZ env kn lines st0) b/\((zfn outs (XZ env kn lines st0).wrote/\b.wrote=(XZ env kn lines st0).wrote.map pdW)\/(b.over=true/\b.why=14/\¬zfn outs (XZ env kn lines st0).wrote)):=by
 have hright:zfn outs wr:=⟨h.nod,h.own⟩
 cases h.e with
 | waits d hs h1 hm hw ha ha2 h3 h4 =>
  obtain⟨rfl,rfl⟩:=hl.stand hs
  exact⟨.waits h1 hm ha h3 h4 h.wrote,.inl ⟨hright,h.wrote⟩⟩
 | read d hs h1 hm h3 h4 =>
  obtain⟨rfl,rfl⟩:=hl.stand hs
  exact⟨.read h1 hm h3 h4 h.wrote,.inl ⟨hright,h.wrote⟩⟩
 | ended d hs h1 hm h3 h4 =>
  obtain⟨rfl,rfl⟩:=hl.stand hs
  exact⟨.ended h1 hm h3 h4 h.wrote,.inl ⟨hright,h.wrote⟩⟩
 | short d hs h1 hm h3 h4 =>
  obtain⟨rfl,rfl⟩:=hl.stand hs
  exact⟨.short h1 hm h3 h4 h.wrote,.inl ⟨hright,h.wrote⟩⟩
 | failed d hs h1 hm h3 h4 =>
  obtain⟨rfl,rfl⟩:=hl.stand hs
  exact⟨.failed h1 hm h3 h4 h.wrote,.inl ⟨hright,h.wrote⟩⟩
 | wrote d hs hb h3 h4 =>
  have hp:=hl.at_ hs
  refine⟨.wrote wr d hp hb h3 h4,.inr ⟨h3,h4,fun hr=>?_⟩⟩
  have h5:(wr++[d]).Sublist (XZ env kn lines st0).wrote:=hp.sublist
  rcases hb with hb|hb
  ·have h6:((wr++[d]).map (·.path)).Nodup:=(h5.map _).nodup hr.1
   grind
  ·exact hb (hr.2 d (h5.subset (by simp)))
end
section
variable [Sel]
def XG (f:List UInt8->Bool):List UInt8->Bool
 | []=>f []
 | c::cs=>f (c::cs)||XG f cs
def Z4:List UInt8->List UInt8->Bool
 | [],s=>s.isEmpty
 | p::ps,s=>if p=42 then XG (Z4 ps) s else match s with
  | []=>false
  | c::cs=>(decide (p=63)||decide (p=c))&&Z4 ps cs
theorem pI (r s:List UInt8):Z4 (42::r) s=XG (Z4 r) s:=by
 rfl
def vX:List UInt8->List UInt8->Bool
 | [],[]=>true
 | p::ps,c::cs=>decide (p≠42)&&(decide (p=63)||decide (p=c))&&vX ps cs
 | _,_=>false
theorem UG (f:List UInt8->Bool):∀s:List UInt8,XG f s=true<->∃n,n<=s.length/\f (s.drop n)=true
 | []=>by
  simp[XG]
 | c::cs=>by
  have ih:=UG f cs
  simp only[XG,Bool.or_eq_true,ih]
  constructor
  ·rintro(h|⟨n,h1,h2⟩)
   ·exact⟨0,by simp,h⟩
   ·exact⟨n+1,by simp;omega,by simp_all⟩
  ·rintro⟨n,h1,h2⟩
   cases n with
   | zero=>exact .inl h2
   | succ n=>grind
theorem zgf {f:List UInt8->Bool} {s:List UInt8} {k:Nat} (hk:k<=s.length) (h:XG f (s.drop k)=true):XG f s=true:=by
 grind [UG,List.drop_drop]
theorem zgC:∀ {seg u:List UInt8} (r v:List UInt8),vX seg u=true->Z4 (seg++r) (u++v)=Z4 r v
 | [],[],r,v,_=>rfl
 | p::ps,c::cs,r,v,h=>by
  simp_all[vX,zgC,Z4]
theorem zhl:∀ {seg u:List UInt8},vX seg u=true->seg.length=u.length
 | [],[],_=>rfl
 | p::ps,c::cs,h=>by
  simp only[vX,Bool.and_eq_true]at h
  simp[zhl h.2]
theorem zjr:∀ {seg u:List UInt8},vX seg u=true->∀p∈seg,p≠42
 | [],[],_=>by simp
 | p::ps,c::cs,h=>by
  simp only[vX,Bool.and_eq_true,decide_eq_true_eq]at h
  intro x hx
  rcases List.mem_cons.1 hx with rfl|hx
  ·exact h.1.1
  ·exact zjr h.2 x hx
theorem zev:∀ {seg u:List UInt8} {p c:UInt8},vX seg u=true->p≠42->(p=63\/p=c)->vX (seg++[p]) (u++[c])=true
 | [],[],p,c,_,h1,h2=>by simp_all[vX]
 | q::ps,d::cs,p,c,h,h1,h2=>by
  simp_all[vX,zev]
theorem zhb:∀ {seg:List UInt8} {r s:List UInt8},(∀p∈seg,p≠42)->Z4 (seg++r) s=true->seg.length<=s.length/\Z4 r (s.drop seg.length)=true
 | [],r,s,_,h=>⟨by simp,by simpa using h⟩
 | p::ps,r,s,hn,h=>by
  simp only[List.cons_append,Z4]at h
  rw[if_neg (hn p (by simp))]at h
  cases s with
  | nil=>cases h
  | cons c cs =>
   simp only[Bool.and_eq_true]at h
   have:=zhb (fun x hx=>hn x (by simp[hx])) h.2
   simp_all
theorem zhd:∀r:List UInt8,Z4 r []=r.all fun c=>decide (c=42)
 | []=>rfl
 | p::ps=>by
  have ih:=zhd ps
  simp only[Z4,XG,List.all_cons]
  by_cases h:p=42
  ·simp[h,ih]
  ·simp[h]
inductive UL (p s:List UInt8) (i k:Nat):Option (Nat × Nat)->Prop
 | free:Z4 p s=Z4 (p.drop i) (s.drop k)->UL p s i k none
 | star (st a:Nat):p[st]?=some 42->st+1<=i->a<=k->vX ((p.drop (st+1)).take (i-(st+1))) ((s.drop a).take (k-a))=true->Z4 p s=Z4 (p.drop st) (s.drop a)->UL p s i k (some (st,a))
theorem ZE {p:List UInt8} {i:Nat} {c:UInt8} (h:p[i]?=some c):p.drop i=c::p.drop (i+1):=by
 obtain⟨h1,rfl⟩:=List.getElem?_eq_some_iff.1 h
 simp
theorem zgu (q:List UInt8) (a b:Nat) (h:a<=b):q.drop a=(q.drop a).take (b-a)++q.drop b:=by
 grind [List.take_append_drop,List.drop_drop]
theorem zcD {p s:List UInt8} {i k st a:Nat} (h1:p[st]?=some 42) (h2:st+1<=i) (h3:a<=k) (hk:k<=s.length) (hl:vX ((p.drop (st+1)).take (i-(st+1))) ((s.drop a).take (k-a))=true) :
  Z4 (p.drop st) (s.drop a)=XG (Z4 (p.drop (st+1))) (s.drop a)/\Z4 (p.drop (st+1)) (s.drop a)=Z4 (p.drop i) (s.drop k)/\
  ∀n,n<=(s.drop a).length->Z4 (p.drop (st+1)) ((s.drop a).drop n)=true->k+n<=s.length/\Z4 (p.drop i) (s.drop (k+n))=true:=by
 have e1:=zgu p (st+1) i h2
 have e2:=zgu s a k h3
 refine⟨?_,?_,fun n hn h=>?_⟩
 ·rw[ZE h1,pI]
 ·grind [zgC]
 ·rw[e1]at h
  obtain⟨g1,g2⟩:=zhb (zjr hl) h
  have hll:=zhl hl
  have e4:((s.drop a).take (k-a)).length=k-a:=by grind
  rw[hll,e4]at g1 g2
  rw[List.drop_drop,List.drop_drop]at g2
  rw[List.length_drop,List.length_drop]at g1
  rw[show a+(n+(k-a))=k+n by omega]at g2
  grind
theorem UL.toStar {p s:List UInt8} {i k:Nat} {o:Option (Nat × Nat)} (h:UL p s i k o) (hk:k<=s.length) (hc:p[i]?=some 42):UL p s (i+1) k (some (i,k)):=by
 refine .star i k hc (Nat.le_refl _) (Nat.le_refl _) (by simp[vX]) ?_
 cases h with
 | free h=>exact h
 | star st a h1 h2 h3 hl he =>
  obtain⟨g1,g2,g3⟩:=zcD h1 h2 h3 hk hl
  rw[he,g1]
  apply Bool.eq_iff_iff.2
  rw[UG]
  constructor
  ·rintro⟨n,hn,h⟩
   obtain⟨q1,q2⟩:=g3 n hn h
   rw[ZE hc,pI]at q2 |-
   have q3:XG (Z4 (p.drop (i+1))) ((s.drop k).drop n)=true:=by simp_all
   grind [zgf,List.length_drop]
  ·intro h
   exact⟨0,by simp,by simp_all⟩
theorem UL.lit {p s:List UInt8} {i k:Nat} {o:Option (Nat × Nat)} {c d:UInt8} (h:UL p s i k o) (hc:p[i]?=some c) (hd:s[k]?=some d) (h42:c≠42) (hm:c=63\/c=d):UL p s (i+1) (k+1) o:=by
 cases h with
 | free h =>
  refine .free ?_
  rw[h,ZE hc,ZE hd,Z4,if_neg h42]
  simp_all
 | star st a h1 h2 h3 hl he =>
  refine .star st a h1 (by omega) (by omega) ?_ he
  have hi:=(List.getElem?_eq_some_iff.1 hc).1
  have hk:=(List.getElem?_eq_some_iff.1 hd).1
  have e1:(p.drop (st+1)).take (i+1-(st+1))=(p.drop (st+1)).take (i-(st+1))++[c]:=by
   rw[show i+1-(st+1)=(i-(st+1))+1 by omega,List.take_succ_eq_append_getElem (by grind)]
   simp_all
  have e2:(s.drop a).take (k+1-a)=(s.drop a).take (k-a)++[d]:=by
   rw[show k+1-a=(k-a)+1 by omega,List.take_succ_eq_append_getElem (by grind)]
   simp_all
  simp_all[zev]
def zhC (p s:List UInt8) (i k:Nat):Prop:=∃d,s[k]?=some d/\(p.length<=i\/∃c,p[i]?=some c/\c≠42/\c≠63/\c≠d)
theorem zeb {p s:List UInt8} {i k:Nat} (h:zhC p s i k):Z4 (p.drop i) (s.drop k)=false:=by
 obtain⟨d,hd,h|⟨c,hc,h1,h2,h3⟩⟩:=h
 ·rw[List.drop_of_length_le h,ZE hd];rfl
 simp_all[ZE,Z4]
theorem UL.back {p s:List UInt8} {i k st a:Nat} (h:UL p s i k (some (st,a))) (hn:zhC p s i k):UL p s (st+1) (a+1) (some (st,a+1)):=by
 obtain⟨d,hd,_⟩:=id hn
 have hk:=(List.getElem?_eq_some_iff.1 hd).1
 have hno:=zeb hn
 cases h with
 | star _ _ h1 h2 h3 hl he =>
  obtain⟨g1,g2,g3⟩:=zcD h1 h2 h3 (by omega) hl
  refine .star st (a+1) h1 (Nat.le_refl _) (Nat.le_refl _) (by simp[vX]) ?_
  rw[he,g1,ZE h1,pI]
  have ha:s[a]?=some (s[a]'(by omega)):=List.getElem?_eq_getElem _
  rw[<-g2,ZE ha]at hno
  rw[ZE ha,XG,hno,Bool.false_or]
theorem UL.no {p s:List UInt8} {i k:Nat} (h:UL p s i k none) (hn:zhC p s i k):Z4 p s=false:=by
 cases h with
 | free h=>simp_all[zeb]
theorem UL.fin {p s:List UInt8} {i:Nat} {o:Option (Nat × Nat)} (h:UL p s i s.length o):Z4 p s=(p.drop i).all fun c=>decide (c=42):=by
 rw[<-zhd]
 cases h with
 | free h=>simp_all
 | star st a h1 h2 h3 hl he =>
  obtain⟨g1,g2,g3⟩:=zcD h1 h2 h3 (Nat.le_refl _) hl
  rw[List.drop_length]at g2
  rw[he,g1]
  apply Bool.eq_iff_iff.2
  rw[UG]
  constructor
  ·grind
  ·intro h
   exact⟨0,by simp,by simp_all⟩
def KO (c:UInt8):Nat->List UInt8->List UInt8
 | 0,l=>l
 | n+1,l=>if l.getLast?=some c then KO c n l.dropLast else l
def Y6 (c:UInt8):List UInt8->List UInt8
 | []=>[]
 | x::r=>if x=c then Y6 c r else x::r
def zdH (c:UInt8) (l:List UInt8):List UInt8:=Y6 c (KO c l.length l)
theorem zbl {c:UInt8}:∀ {l:List UInt8},Y6 c l=[]<->(l.all fun x=>decide (x=c))=true
 | []=>by simp[Y6]
 | x::r=>by
  have ih:=zbl (c:=c) (l:=r)
  unfold Y6
  grind
theorem zbD {c:UInt8}:∀ {n:Nat} {l:List UInt8},l.length<=n->((KO c n l).all (fun x=>decide (x=c))=true<->(l.all fun x=>decide (x=c))=true)
 | 0,l,h=>by rfl
 | n+1,l,h=>by
  unfold KO
  split
  ·rename_i hl
   rcases List.eq_nil_or_concat l with rfl|⟨m,x,rfl⟩
   ·cases hl
   ·rw[List.concat_eq_append]at hl h |-
    simp_all[zbD]
  ·rfl
theorem zi8 {c:UInt8} {l:List UInt8}:decide (zdH c l=[])=l.all fun x=>decide (x=c):=by
 apply Bool.eq_iff_iff.2
 rw[decide_eq_true_iff,zdH,zbl,zbD (Nat.le_refl _)]
theorem zbf {c:UInt8}:∀ {n:Nat} {l:List UInt8},(KO c n l).length<=l.length
 | 0,l=>Nat.le_refl _
 | n+1,l=>by
  unfold KO
  split
  ·have:=zbf (c:=c) (n:=n) (l:=l.dropLast);simp at this;omega
  omega
theorem zc9 (l:List UInt8) (c:UInt8) (hl:l.length<=1000000000):PC Tryz.prog 199 [.av .str (.s l),.av (.int .u8) (.i .u8 c.toNat)] (.av .str (.s (KO c l.length l))):=by
 refine zow Tryz.func199 cf0 fun imm0 w0=>?_
 simp (disch:=omega) [zz]
 refine AT.loop' (α:=List UInt8) (fun x=>St.of [(0,.av .str (.s x)),(1,.av (.int .u8) (.i .u8 c.toNat))] [] (fun _=>0) []) (fun x=>x.length<=1000000000/\KO c x.length x=KO c l.length l) (fun x=>x.length) l ?_ ?_ ?_
 ·apply Le.of<;>simp[le9,z6]<;>try omega
 ·exact⟨hl,rfl⟩
 rintro x ⟨hx,hxe⟩ KL hN hE
 refine zrd cf0 ?_
 rcases List.eq_nil_or_concat x with rfl|⟨m,d,rfl⟩
 ·simp (disch:=omega) [zz]
  refine hE _ _ (by simp) ?_
  have:KO c l.length l=[]:=by rw[<-hxe];rfl
  simp (disch:=omega) [zz,Tryz.f199,this]
 ·rw[List.concat_eq_append]at hx hxe |-
  simp only[List.length_append,List.length_singleton]at hx hxe
  have hl1:((m++[d]).length:Int)=m.length+1:=by simp
  have h1:(0:Int)<(m.length:Int)+1:=by omega
  have hg:(m++[d])[m.length]?=some d:=by simp
  have hm:(m++[d]).take m.length=m:=by simp
  by_cases hd:d=c
  ·subst hd
   have hst:KO d (m.length+1) (m++[d])=KO d m.length m:=by
    rw[KO,if_pos (by simp),List.dropLast_concat]
   simp (disch:=omega) [zz,h1,hg,hm]
   try (repeat with_reducible refine om ?_)
   refine hN _ m ?_ ⟨by omega,by rw[<-hxe,hst]⟩ (by simp)
   apply Le.of<;>simp[le9,z6]<;>try omega
  ·have hd':¬(d.toNat:Int)=c.toNat:=fun e=>hd (UInt8.toNat_inj.1 (by omega))
   have hst:KO c (m.length+1) (m++[d])=m++[d]:=by
    rw[KO,if_neg (by simp[hd])]
   simp (disch:=omega) [zz,h1,hg,hm,hd']
   try (repeat with_reducible refine om ?_)
   refine hE _ _ (by simp) ?_
   simp (disch:=omega) [zz,Tryz.f199,<-hxe,hst]
theorem zdO (l:List UInt8) (c:UInt8) (hl:l.length<=1000000000):PC Tryz.prog 198 [.av .str (.s l),.av (.int .u8) (.i .u8 c.toNat)] (.av .str (.s (Y6 c l))):=by
 refine zow Tryz.func198 cf0 fun imm0 w0=>?_
 simp (disch:=omega) [zz]
 refine AT.loop' (α:=List UInt8) (fun x=>St.of [(0,.av .str (.s x)),(1,.av (.int .u8) (.i .u8 c.toNat))] [] (fun _=>0) []) (fun x=>x.length<=1000000000/\Y6 c x=Y6 c l) (fun x=>x.length) l ?_ ?_ ?_
 ·apply Le.of<;>simp[le9,z6]<;>try omega
 ·exact⟨hl,rfl⟩
 rintro x ⟨hx,hxe⟩ KL hN hE
 refine zrd cf0 ?_
 cases x with
 | nil =>
  simp (disch:=omega) [zz]
  refine hE _ _ (by simp) ?_
  have:Y6 c l=[]:=by rw[<-hxe];rfl
  simp (disch:=omega) [zz,Tryz.f198,this]
 | cons d m =>
  simp only[List.length_cons]at hx
  have h1:(0:Int)<(m.length:Int)+1:=by omega
  by_cases hd:d=c
  ·subst hd
   have hst:Y6 d (d::m)=Y6 d m:=by rw[Y6,if_pos rfl]
   simp (disch:=omega) [zz,h1]
   try (repeat with_reducible refine om ?_)
   refine hN _ m ?_ ⟨by omega,by rw[<-hxe,hst]⟩ (by simp)
   apply Le.of<;>simp[le9,z6]<;>try omega
  ·have hd':¬(d.toNat:Int)=c.toNat:=fun e=>hd (UInt8.toNat_inj.1 (by omega))
   have hst:Y6 c (d::m)=d::m:=by rw[Y6,if_neg hd]
   simp (disch:=omega) [zz,h1,hd']
   try (repeat with_reducible refine om ?_)
   refine hE _ _ (by simp) ?_
   simp (disch:=omega) [zz,Tryz.f198,<-hxe,hst]
theorem zlV (l:List UInt8) (hl:l.length<=1000000000):PC Tryz.prog 180 [.av .str (.s l),.av .str (.s [42])] (.av .str (.s (zdH 42 l))):=by
 refine zow Tryz.func180 cf0 fun imm0 w0=>?_
 by_cases h0:l=[]
 ·subst h0
  have:zdH 42 []=[]:=rfl
  simp (disch:=omega) [zz,Tryz.f180,this]
 ·have hr:=zbf (c:=42) (n:=l.length) (l:=l)
  simp (disch:=omega) [zz,h0]
  refine zcd (zc9 l 42 hl) ?_;(simp (disch:=first|omega|assumption) [zz])
  refine zcd (zdO (KO 42 l.length l) 42 (by omega)) ?_;(simp (disch:=first|omega|assumption) [zz,Tryz.f180,zdH])
def stV:Option (Nat × Nat)->Int × Int
 | none=>(-1,0)
 | some (st,a)=>(st,a)
def stM (n m:Nat):Option (Nat × Nat)->Nat
 | none=>n*(n+m+1)
 | some (_,a)=>(n-a)*(n+m+1)
theorem znY (p s:List UInt8) (hp:p.length<=1000000000) (hs:s.length<=1000000000):PC Tryz.prog 155 [.av .str (.s p),.av .str (.s s)] (.av .bool (.b (Z4 p s))):=by
 refine zow Tryz.func155 cf0 fun imm0 w0=>?_
 simp (disch:=omega) [zz]
 refine AT.loop' (α:=Nat × Nat × Option (Nat × Nat)) (fun x=>St.of [(0,.av .str (.s p)),(1,.av .str (.s s)),(5,.av (.int .i64) (.i .i64 x.1)),(6,.av (.int .i64) (.i .i64 x.2.1)),(7,.av (.int .i64) (.i .i64 (stV x.2.2).1)),(8,.av (.int .i64) (.i .i64 (stV x.2.2).2))] [] (fun _=>0) [])
  (fun x=>x.1<=p.length/\x.2.1<=s.length/\UL p s x.1 x.2.1 x.2.2) (fun x=>stM s.length p.length x.2.2+(s.length-x.2.1)+(p.length-x.1)) (0,0,none) ?_ ?_ ?_
 ·apply Le.of<;>simp[le9,stV]<;>try omega
 ·exact⟨by simp,by simp,.free (by simp)⟩
 rintro⟨i,k,o⟩ ⟨hi,hk,hO⟩ KL hN hE
 simp only at hi hk hO hN
 refine zrd cf0 ?_
 by_cases hks:k<s.length
 rotate_left
 ·have hks':¬(k:Int)<s.length:=by omega
  have hke:k=s.length:=by omega
  subst hke
  have hfin:=hO.fin
  rw[<-zi8]at hfin
  have hdl:(p.drop i).length<=1000000000:=by rw[List.length_drop];omega
  simp (disch:=omega) [zz,hks']
  refine hE _ _ (by simp) ?_
  simp (disch:=omega) [zz]
  (repeat with_reducible refine om ?_)
  refine qO (zlV (p.drop i) hdl) rfl rfl (by simp) (by simp[qR,coC,TV.er,AV.er]) ?_
  simp (disch:=omega) [zz,Tryz.f155,hfin]
 have hks':(k:Int)<s.length:=by omega
 have hd:s[k]?=some s[k]:=List.getElem?_eq_getElem hks
 obtain⟨d,hdd⟩:∃d,d=s[k]:=⟨_,rfl⟩
 have hsd:s[k]=d:=hdd.symm
 rw[<-hdd]at hd
  -- what happens where it doesn't go on
 have hno:∀(Q:zhC p s i k),True:=fun _=>trivial
 by_cases hip:i<p.length
 rotate_left
 ·have hip':¬(i:Int)<p.length:=by omega
  have hng:zhC p s i k:=⟨d,hd,.inl (by omega)⟩
  cases o with
  | none =>
   have hf:=hO.no hng
   simp (disch:=omega) [zz,hks',hip',stV]
   refine hE _ _ (by simp) ?_
   simp (disch:=omega) [zz,Tryz.f155,hf]
  | some sa =>
   obtain⟨st,a⟩:=sa
   have hb:=hO.back hng
   have ha:a<=k:=by cases hO;assumption
   have hst:st<p.length:=by cases hO with|star _ _ h1=>exact(List.getElem?_eq_some_iff.1 h1).1
   have h0:(0:Int)<=st:=by omega
   simp (disch:=omega) [zz,hks',hip',stV,h0]
   refine hN _ (st+1,a+1,some (st,a+1)) ?_ ⟨by simp only;omega,by simp only;omega,hb⟩ ?_
   ·apply Le.of<;>simp[le9,stV]<;>try omega
   ·simp only[stM]
    have e:s.length-a=(s.length-(a+1))+1:=by omega
    rw[e,Nat.succ_mul]
    omega
 have hip':(i:Int)<p.length:=by omega
 have hc:p[i]?=some p[i]:=List.getElem?_eq_getElem hip
 obtain⟨c,hcc⟩:∃c,c=p[i]:=⟨_,rfl⟩
 have hpc:p[i]=c:=hcc.symm
 rw[<-hcc]at hc
 by_cases h42:c=42
 ·subst h42
  have hn:=hO.toStar hk hc
  simp (disch:=omega) [zz,hks',hip',hpc]
  (repeat with_reducible refine om ?_)
  refine hN _ (i+1,k,some (i,k)) ?_ ⟨by omega,hk,hn⟩ ?_
  ·apply Le.of<;>simp[le9,stV]<;>try omega
  ·have:stM s.length p.length (some (i,k))<=stM s.length p.length o:=by
    cases o with
    | none=>simp only[stM];exact Nat.mul_le_mul_right _ (by omega)
    | some sa =>
     obtain⟨st,a⟩:=sa
     have ha:a<=k:=by cases hO;assumption
     simp only[stM];exact Nat.mul_le_mul_right _ (by omega)
   simp only
   omega
 have h42':¬(c.toNat:Int)=42:=by have:=za9 (n:=42) (by omega) h42;simpa using this
 by_cases hm:c=63\/c=d
 ·have hn:=hO.lit hc hd h42 hm
  have go:KL .normal=KL .normal:=rfl
  rcases Classical.em (c=63)with h63|h63
  ·subst h63
   simp (disch:=omega) [zz,hks',hip',hpc]
   (repeat with_reducible refine om ?_)
   refine hN _ (i+1,k+1,o) ?_ ⟨by simp only;omega,by simp only;omega,hn⟩ (by simp only;omega)
   apply Le.of<;>simp[le9,stV]<;>try omega
  ·have hcd:c=d:=hm.resolve_left h63
   subst hcd
   have h63':¬(c.toNat:Int)=63:=by have:=za9 (n:=63) (by omega) h63;simpa using this
   simp (disch:=omega) [zz,hks',hip',hpc,hsd,h42',h63']
   (repeat with_reducible refine om ?_)
   refine hN _ (i+1,k+1,o) ?_ ⟨by simp only;omega,by simp only;omega,hn⟩ (by simp only;omega)
   apply Le.of<;>simp[le9,stV]<;>try omega
 ·have h63:¬c=63:=fun e=>hm (.inl e)
  have hcd:¬c=d:=fun e=>hm (.inr e)
  have h63':¬(c.toNat:Int)=63:=by have:=za9 (n:=63) (by omega) h63;simpa using this
  have hcd':¬(c.toNat:Int)=d.toNat:=fun e=>hcd (UInt8.toNat_inj.1 (by omega))
  have hng:zhC p s i k:=⟨d,hd,.inr ⟨c,hc,h42,h63,hcd⟩⟩
  cases o with
  | none =>
   have hf:=hO.no hng
   simp (disch:=omega) [zz,hks',hip',hpc,hsd,h42',h63',hcd',stV]
   (repeat with_reducible refine om ?_)
   refine hE _ _ (by simp) ?_
   simp (disch:=omega) [zz,Tryz.f155,hf]
  | some sa =>
   obtain⟨st,a⟩:=sa
   have hb:=hO.back hng
   have ha:a<=k:=by cases hO;assumption
   have hst:st<p.length:=by cases hO with|star _ _ h1=>exact(List.getElem?_eq_some_iff.1 h1).1
   have h0:(0:Int)<=st:=by omega
   simp (disch:=omega) [zz,hks',hip',hpc,hsd,h42',h63',hcd',stV,h0]
   (repeat with_reducible refine om ?_)
   refine hN _ (st+1,a+1,some (st,a+1)) ?_ ⟨by simp only;omega,by simp only;omega,hb⟩ ?_
   ·apply Le.of<;>simp[le9,stV]<;>try omega
   ·simp only[stM]
    have e:s.length-a=(s.length-(a+1))+1:=by omega
    rw[e,Nat.succ_mul]
    omega
end
end Go.Proofs.YtdkieabmeiojjaaGreatDoor
