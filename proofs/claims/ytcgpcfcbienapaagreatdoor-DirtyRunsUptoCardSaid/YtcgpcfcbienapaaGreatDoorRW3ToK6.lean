/- The document's tool, command by command: plain. No condition beyond each theorem's own. -/
import Derived.Test.YtcgpcfcbienapaaGreatDoorK20ToBX1
import Derived.Test.YtcgpcfcbienapaaGreatDoorP8ToK3
import Derived.Test.YtcgpcfcbienapaaGreatDoorQ0ToK5
set_option linter.unusedSimpArgs false
set_option linter.unusedVariables false
set_option linter.unusedSectionVars false
section
set_option maxRecDepth 100000
namespace Go.Proofs.YtcgpcfcbienapaaGreatDoor
open Go Go.Ab
open Classical
variable [Sel] [SelPow] [SelMax]
def zfi (l:List Txt):Txt:=l.flatMap (·++[10])
noncomputable def xT (env:List (Txt × Txt)) (kn:List KnV) (line:Txt) (ws:List Txt) (s:StV):StV :=
 let w:=ws.getD 0 []
 let arg:=ws.getD 1 []
 if w=zZ∨w=w8 then
  (
   if (y7 kn arg s).1.stop.kind≠0 then(y7 kn arg s).1
   else if (y7 kn arg s).2.is=true then yP (y7 kn arg s).2.data (y7 kn arg s).1
   else if w=zZ then yZ 10 (y7 kn arg s).1 else(y7 kn arg s).1)
 else if w=jT then(zdm kn (ws.getD 2 []) 501 arg s []).1
 else if w=zCX then yP (V9 line++[10]) s
 else if w=yO then(match env.find? fun x=>decide (x.1=arg)with
  | some x=>yP x.2 s
  | none=>yZ 10 s)
 else if w=yR then yZ 15 s
 else if w=kG then(if ((z7 s.buf).filter fun x=>Lib.contains x arg)=[] then yZ 15 s else s)
 else if w=wQ then yP (zfi ((z7 s.buf).filter fun x=>Lib.contains x arg)) { s with buf:=[] }
 else if w=j8 then { s with wrote:=s.wrote++[⟨2,arg,s.buf,0⟩],buf:=[] }
 else yP (cS w arg s.buf) { s with buf:=[] }
noncomputable def Y9 (env:List (Txt × Txt)) (kn:List KnV):List Txt→StV→StV
 | [],s=>{ s with stop:=⟨3,[],[],0⟩ }
 | x::r,s=>if U4 (zR x)=true then Y9 env kn r s
  else if (xT env kn x (zR x) s).stop.kind≠0 then xT env kn x (zR x) s
  else Y9 env kn r (xT env kn x (zR x) s)
structure gR (s:StV):Prop where
 stop:s.stop=do0
 len:s.asked.length≤500
theorem gR.d {s:StV} (h:gR s):CG s []:=⟨h.stop,List.nodup_nil,by simp,h.len⟩
theorem gR.of {s s':StV} (h:gR s) (h1:s'.stop=s.stop) (h2:s'.asked=s.asked):gR s':=⟨h1.trans h.stop,by rw[h2];exact h.len⟩
theorem DF {t:Txt} {s:StV} (h:gR s) (hk:(yP t s).stop.kind=0):gR (yP t s):=by
 unfold yP at hk ⊢
 split
 ·simp_all[yZ]
 ·exact⟨h.stop,h.len⟩
structure zm4 (env:List (Txt × Txt)) (kn:List KnV) (c:CfV) (td:List TdV) (r:StV):Prop where
 go:r.stop.kind=0→gR r∧∃d',Q7 env kn c ⟨td,r,d'⟩
 stop:r.stop.kind≠0→∃td' d',Q7 env kn c ⟨td',r,d'⟩
theorem zm4.one {env:List (Txt × Txt)} {kn:List KnV} {x:CmdV} {td:List TdV} {s r:StV} {d d':List Txt} (h:gR s) (e:V6 env x ⟨td,s,d⟩=⟨td,r,d'⟩) (hi:r.stop.kind=0→gR r):zm4 env kn ⟨.cmd x::td,s,d⟩ td r:=by
 have hk0:s.stop.kind=0:=by rw[h.stop];rfl
 have hr:Q7 env kn ⟨.cmd x::td,s,d⟩ ⟨td,r,d'⟩:=by
  refine .step hk0 ?_
  have:J6 env kn ⟨.cmd x::td,s,d⟩=V6 env x ⟨td,s,d⟩:=rfl
  rw[this,e];exact .refl _
 exact⟨fun hk=>⟨hi hk,d',hr⟩,fun _=>⟨td,d',hr⟩⟩
theorem DY {s:Txt} {c:CmdV} (h:Z0 s=some (some c)):∃w ws,zR s=w::ws∧¬w.head?=some 35∧c.words.getD 0 []=w∧((w=zCX∧c.rest=V9 s)∨(w≠zCX∧c.words=w::ws∧vH (zR s)=true)):=by
 unfold Z0 at h
 cases hw:zR s with
 | nil=>simp_all
 | cons w ws =>
  rw[hw]at h
  simp only at h
  split at h
  ·simp at h
  rename_i h1
  refine⟨w,ws,rfl,h1,?_⟩
  split at h
  ·rename_i h2
   simp only[Option.some.injEq]at h
   subst h
   refine⟨rfl,.inl ⟨h2,?_⟩⟩
   grind [zcE]
  split at h
  ·simp at h
  ·rename_i h2 h3
   simp only[Option.some.injEq]at h
   have hg:vH (zR s)=true:=by
    cases hb:vH (zR s)with
    | true=>rfl
    | false =>
     have:=(vB s).2 hb
     simp_all[Z0]
   grind
theorem zeI {α:Type} (g:α→Bool) (l:List α):(l.any g=true)↔¬(l.filter g=[]):=by
 simp
theorem zhY {env:List (Txt × Txt)} {kn:List KnV} {line:Txt} {c:CmdV} (hc:Z0 line=some (some c)) (td:List TdV) {s:StV} (d:List Txt) (h:gR s):zm4 env kn ⟨.cmd c::td,s,d⟩ td (xT env kn line (zR line) s):=by
 have hk0:s.stop.kind=0:=by rw[h.stop];rfl
 obtain⟨w,ws,hw,hh,hc0,hcase⟩:=DY hc
 rw[hw]
 have hst:J6 env kn ⟨.cmd c::td,s,d⟩=V6 env c ⟨td,s,d⟩:=rfl
 have h1st:Q7 env kn ⟨.cmd c::td,s,d⟩ (V6 env c ⟨td,s,d⟩):=.step hk0 (by rw[hst];exact .refl _)
 unfold xT
 simp only[List.getD_cons_zero]
 rcases hcase with⟨ht,hrest⟩|⟨ht,hcw,hg⟩
 ·-- a text
  subst ht
  have e:V6 env c ⟨td,s,d⟩=⟨td,yP (V9 line++[10]) s,d⟩:=by
   unfold V6
   simp only[hc0,hrest]
   rfl
  rw[if_neg (by decide),if_neg (by decide),if_pos rfl]
  exact .one h e (DF h)
 have ha:c.words.getD 1 []=(w::ws).getD 1 []:=by rw[hcw]
 have ha2:c.words.getD 2 []=(w::ws).getD 2 []:=by rw[hcw]
 obtain⟨arg,harg⟩:∃arg,arg=(w::ws).getD 1 []:=⟨_,rfl⟩
 obtain⟨arg2,harg2⟩:∃arg,arg=(w::ws).getD 2 []:=⟨_,rfl⟩
 rw[←harg]at ha ⊢
 rw[←harg2]at ha2 ⊢
 have hcmd:V6 env c ⟨td,s,d⟩=_:=rfl
 conv at hcmd=>rhs;unfold V6
 simp only[hc0,ha,ha2]at hcmd
 by_cases h1:w=zZ∨w=w8
 ·rw[if_pos h1]
  have key:∀co:CoV,(co=.there .add∧w=zZ)∨(co=.tr∧w≠zZ)→V6 env c ⟨td,s,d⟩=VX arg co ⟨td,s,d⟩→zm4 env kn ⟨.cmd c::td,s,d⟩ td (if (y7 kn arg s).1.stop.kind≠0 then(y7 kn arg s).1 else if (y7 kn arg s).2.is=true then yP (y7 kn arg s).2.data (y7 kn arg s).1 else if w=zZ then yZ 10 (y7 kn arg s).1 else(y7 kn arg s).1):=by
   intro co hco e
   rw[e]at h1st
   rcases zjM env kn arg co ⟨td,s,d⟩ hk0 h.len with⟨k,g1,g2,g3,g4,g5,g6,g7⟩|⟨g1,td',g2⟩
   ·simp only at g1 g3 g4 g5 g6 g7
    have hk:(y7 kn arg s).2=k:=by rw[g1]
    have hi1:gR (y7 kn arg s).1:=⟨g3.trans h.stop,g6⟩
    rw[if_neg (by grind),hk]
    have hr:=h1st.trans g7
    cases his:k.is with
    | true =>
     rw[if_pos rfl]
     have e2:coS co k ⟨td,(y7 kn arg s).1,d⟩=⟨td,yP k.data (y7 kn arg s).1,d⟩:=by
      rcases hco with⟨rfl,_⟩|⟨rfl,_⟩<;>simp[coS,his,thS,CfV.map]
     rw[e2]at hr
     exact⟨fun hk=>⟨DF hi1 hk,d,hr⟩,fun _=>⟨td,d,hr⟩⟩
    | false =>
     rw[if_neg (by decide)]
     rcases hco with⟨rfl,hw⟩|⟨rfl,hw⟩
     ·rw[if_pos hw]
      have e2:coS (.there .add) k ⟨td,(y7 kn arg s).1,d⟩=⟨td,yZ 10 (y7 kn arg s).1,d⟩:=by grind [coS,CfV.map]
      rw[e2]at hr
      exact⟨fun hk=>by grind [yZ],fun _=>⟨td,d,hr⟩⟩
     ·rw[if_neg hw]
      have e2:coS .tr k ⟨td,(y7 kn arg s).1,d⟩=⟨td,(y7 kn arg s).1,d⟩:=by grind [coS]
      rw[e2]at hr
      exact⟨fun hk=>⟨hi1,d,hr⟩,fun _=>⟨td,d,hr⟩⟩
   ·simp only at g1 g2
    rw[if_pos g1]
    exact⟨fun hk=>absurd hk g1,fun _=>⟨td',d,h1st.trans g2⟩⟩
  grind
 rw[if_neg h1]
 simp only[not_or]at h1
 rw[if_neg h1.1,if_neg h1.2]at hcmd
 by_cases h2:w=jT
 ·rw[if_pos h2]at hcmd ⊢
  rw[hcmd]at h1st
  have hsc:=zco (env:=env) (kn:=kn) (w:=arg2) 501 arg s [] td h.d (by simp) (by simp)
  refine⟨fun hk=>?_,fun hk=>?_⟩
  ·obtain⟨g1,g2⟩:=hsc.go hk
   exact⟨⟨g1.stop,g1.len⟩,_,h1st.trans g2⟩
  ·obtain⟨td',d',g2⟩:=hsc.stop hk
   exact⟨td',d',h1st.trans g2⟩
 rw[if_neg h2]at hcmd ⊢
 rw[if_neg ht]at hcmd ⊢
 by_cases h3:w=yO
 ·rw[if_pos h3]at hcmd ⊢
  cases hf:env.find? fun x=>decide (x.1=arg)with
  | some x =>
   rw[hf]at hcmd
   exact .one h hcmd (DF h)
  | none =>
   rw[hf]at hcmd
   exact .one h hcmd fun hk=>by grind [yZ]
 rw[if_neg h3]at hcmd ⊢
 by_cases h4:w=j8
 ·rw[if_pos h4]at hcmd
  rw[if_neg (by rw[h4];decide),if_neg (by rw[h4];decide),if_neg (by rw[h4];decide),if_pos h4]
  exact .one h hcmd fun _=>⟨h.stop,h.len⟩
 rw[if_neg h4]at hcmd
 by_cases h5:w=kG
 ·rw[if_pos h5]at hcmd
  rw[if_neg (by rw[h5];decide),if_pos h5]
  have hfa:=zeI (fun x=>Lib.contains x arg) (z7 s.buf)
  by_cases hb:(z7 s.buf).any (fun x=>Lib.contains x arg)=true
  ·rw[if_pos hb]at hcmd
   rw[if_neg (hfa.1 hb)]
   exact .one h hcmd fun _=>h
  ·rw[if_neg hb]at hcmd
   rw[if_pos (Classical.byContradiction fun e=>hb (hfa.2 e))]
   exact .one h hcmd fun hk=>by grind [yZ]
 rw[if_neg h5]at hcmd
 by_cases h6:w=yR
 ·rw[if_pos h6]at hcmd ⊢
  exact .one h hcmd fun hk=>by grind [yZ]
 rw[if_neg h6]at hcmd ⊢
 rw[if_neg h5]
 by_cases h7:w=wQ
 ·rw[if_pos h7]
  have e:cS w arg s.buf=zfi ((z7 s.buf).filter fun x=>Lib.contains x arg):=by
   unfold cS zfi
   rw[if_neg (by rw[h7];decide),if_neg (by rw[h7];decide),if_neg (by rw[h7];decide),if_neg (by rw[h7];decide),if_pos h7]
  have hcmd':V6 env c ⟨td,s,d⟩=⟨td,yP (cS w arg s.buf) { s with buf:=[] },d⟩:=hcmd
  rw[e]at hcmd'
  exact .one h hcmd' (DF ⟨h.stop,h.len⟩)
 rw[if_neg h7,if_neg h4]
 exact .one h hcmd (DF ⟨h.stop,h.len⟩)
theorem P6 {env:List (Txt × Txt)} {kn:List KnV}:∀(l:List Txt) (i:Nat) (cs:List CmdV) (s:StV) (d:List Txt),yC i l=.ok cs→gR s→∃c',Q7 env kn ⟨cs.map .cmd,s,d⟩ c'∧c'.st=Y9 env kn l s∧c'.st.stop.kind≠0
 | [],i,cs,s,d,hc,h=>by
  cases hc
  have hk0:s.stop.kind=0:=by rw[h.stop];rfl
  exact⟨_,.step hk0 (.refl _),rfl,by simp[J6,CfV.map]⟩
 | x::r,i,cs,s,d,hc,h=>by
  rw[yC]at hc
  rw[Y9]
  cases hr:Z0 x with
  | none=>simp_all
  | some y =>
   rw[hr]at hc
   cases y with
   | none =>
    simp only at hc
    have hp:U4 (zR x)=true:=by
     grind [Z0,U4]
    rw[if_pos hp]
    exact P6 r (i+1) cs s d hc h
   | some c =>
    simp only at hc
    cases hcs:yC (i+1) r with
    | error e=>simp_all
    | ok l =>
     rw[hcs]at hc
     simp only at hc
     cases hc
     obtain⟨w,ws,hw,hh,_⟩:=DY hr
     have hp:¬U4 (zR x)=true:=by simp_all[U4]
     rw[if_neg hp]
     have hs:=zhY (env:=env) (kn:=kn) hr (l.map .cmd) d h
     by_cases hk:(xT env kn x (zR x) s).stop.kind≠0
     ·rw[if_pos hk]
      obtain⟨td',d',g⟩:=hs.stop hk
      grind
     ·rw[if_neg hk]
      obtain⟨g1,d',g2⟩:=hs.go (by omega)
      obtain⟨c',g3,g4,g5⟩:=P6 r (i+1) l _ d' hcs g1
      exact⟨c',g2.trans g3,g4,g5⟩
theorem JB.far {env:List (Txt × Txt)} {cs:List CmdV} {kn:List KnV} {wr:List DoV} {r:zCT} {dd:DoV} {lines:List Txt} {i:Nat} (h:JB env (C9 cs) kn wr r dd) (hc:yC i lines=.ok cs) :
  (Y9 env kn lines st0).stop=dd∧(Y9 env kn lines st0).wrote=wr:=by
 obtain⟨c,h1,h2,h3,h4⟩:=h.ref
 obtain⟨c',g1,g2,g3⟩:=P6 (env:=env) (kn:=kn) lines i cs st0 [] hc ⟨rfl,by simp[st0]⟩
 have:=Q7.det h1 g1 h3 g3
 simp_all
theorem Q7.to {env:List (Txt × Txt)} {kn:List KnV} {a b c:CfV} (h:Q7 env kn a b) (g:Q7 env kn a c) (hc:c.st.stop.kind≠0):Q7 env kn b c:=by
 induction h with
 | refl=>exact g
 | step h0 _ ih =>
  cases g with
  | refl=>omega
  | step _ g1=>exact ih g1
theorem xJ (t:Txt) (s:StV):(yP t s).wrote=s.wrote:=by unfold yP;split<;>rfl
theorem P4 (p:Txt) (k:CoV) (c:CfV):(VX p k c).st.wrote=c.st.wrote:=by
 unfold VX
 split
 ·rfl
 split<;>rfl
theorem zob (k:CoV) (x:KnV) (c:CfV):(coS k x c).st.wrote=c.st.wrote:=by
 cases k with
 | tr =>
     simp only[coS];split
     ·exact xJ _ _
     ·rfl
 | there t =>
  simp only[coS]
  split
  ·cases t with
   | add=>exact xJ _ _
   | scan w=>rfl
  ·rfl
theorem zjX (env:List (Txt × Txt)) (kn:List KnV) (c:CfV):c.st.wrote <+: (J6 env kn c).st.wrote:=by
 have eq:∀ {d:CfV},d.st.wrote=c.st.wrote→c.st.wrote <+: d.st.wrote:=fun h=>by simp_all
 unfold J6
 split
 ·exact eq rfl
 ·rename_i x l _
  unfold V6
  simp only
  split
  ·simp[P4]
  split
  ·simp[P4]
  split
  ·exact eq (P4 _ _ _)
  split
  ·exact eq (xJ _ _)
  split
  ·split
   ·exact eq (xJ _ _)
   ·exact eq rfl
  split
  ·exact List.prefix_append _ _
  split
  ·split<;>exact eq rfl
  split
  ·exact eq rfl
  ·exact eq (xJ _ _)
 ·unfold D4
  split
  ·split
   ·exact eq (xJ _ _)
   split
   ·exact eq rfl
   ·exact eq (P4 _ _ _)
  ·exact eq (xJ _ _)
 ·split
  ·simp[zob]
  ·exact eq rfl
theorem Q7.wrote {env:List (Txt × Txt)} {kn:List KnV} {a b:CfV} (h:Q7 env kn a b):a.st.wrote <+: b.st.wrote:=by
 induction h with
 | refl=>simp
 | step _ _ ih=>grind [zjX]
structure zh5 (env:List (Txt × Txt)) (cs:List CmdV) (lines:List Txt):Prop where
 i:∃i,yC i lines=.ok cs
theorem zh5.stand {env:List (Txt × Txt)} {cs:List CmdV} {lines:List Txt} (h:zh5 env cs lines) {kn:List KnV} {wr:List DoV} {r:zCT} {d:DoV} (hs:JB env (C9 cs) kn wr r d):(Y9 env kn lines st0).stop=d∧(Y9 env kn lines st0).wrote=wr:=by
 obtain⟨i,hi⟩:=h.i
 exact hs.far hi
theorem zh5.at_ {env:List (Txt × Txt)} {cs:List CmdV} {lines:List Txt} (h:zh5 env cs lines) {kn:List KnV} {wr:List DoV} {r:zCT} (hs:AtR env (C9 cs) kn wr r):wr <+: (Y9 env kn lines st0).wrote:=by
 obtain⟨i,hi⟩:=h.i
 obtain⟨c',g1,g2,g3⟩:=P6 (env:=env) (kn:=kn) lines i cs st0 [] hi ⟨rfl,by simp[st0]⟩
 have h1:=hs.runs kn (List.prefix_refl _)
 have h2:=(h1.to g1 g3).wrote
 rw[g2]at h2
 refine List.IsPrefix.trans ?_ h2
 show wr <+: (if r.over.kind=2 then wr++[r.over] else wr)
 grind
inductive zeV (outs:List Txt) (may:Txt→Bool) (f:StV) (b:zCU):Prop
 | waits:f.stop.kind=1→may f.stop.path=true→b.asks=f.stop.path→b.over=false→b.why=0→b.wrote=f.wrote.map pdW→zeV outs may f b
 | read:f.stop.kind=1→may f.stop.path=false→b.over=true→b.why=13→b.wrote=f.wrote.map pdW→zeV outs may f b
 | ended:f.stop.kind=3→(∀p∈outs,p∈f.wrote.map (·.path))→b.over=true→b.why=0→b.wrote=f.wrote.map pdW→zeV outs may f b
 | short:f.stop.kind=3→¬(∀p∈outs,p∈f.wrote.map (·.path))→b.over=true→b.why=14→b.wrote=f.wrote.map pdW→zeV outs may f b
 | failed:f.stop.kind=4→f.stop.why≠0→b.over=true→b.why=f.stop.why→b.wrote=f.wrote.map pdW→zeV outs may f b
 | wrote (wr:List DoV) (d:DoV):wr++[d] <+: f.wrote→(d.path∈wr.map (·.path)∨d.path∉outs)→b.over=true→b.why=14→zeV outs may f b
def zfw (outs:List Txt) (l:List DoV):Prop:=(l.map (·.path)).Nodup∧∀w∈l,w.path∈outs
theorem WY.far {env:List (Txt × Txt)} {cs:List CmdV} {lines:List Txt} (hl:zh5 env cs lines) {kn:List KnV} {outs:List Txt} {may:Txt→Bool} {wr:List DoV} {b:zCU} (h:WY env (C9 cs) kn outs may wr b) :
  zeV outs may (Y9 env kn lines st0) b∧((zfw outs (Y9 env kn lines st0).wrote∧b.wrote=(Y9 env kn lines st0).wrote.map pdW)∨(b.over=true∧b.why=14∧¬zfw outs (Y9 env kn lines st0).wrote)):=by
 have hright:zfw outs wr:=⟨h.nod,h.own⟩
 cases h.e with
 | waits d hs h1 hm hw ha ha2 h3 h4 =>
  obtain⟨rfl,rfl⟩:=hl.stand hs
  exact⟨.waits h1 hm ha h3 h4 h.wrote,.inl ⟨hright,h.wrote⟩⟩
 | read d hs h1 hm h3 h4 =>
  obtain⟨rfl,rfl⟩:=hl.stand hs
  exact⟨.read h1 hm h3 h4 h.wrote,.inl ⟨hright,h.wrote⟩⟩
 | ended d hs h1 hm h3 h4 =>
  obtain⟨rfl,rfl⟩:=hl.stand hs
  exact⟨.ended h1 hm h3 h4 h.wrote,.inl ⟨hright,h.wrote⟩⟩
 | short d hs h1 hm h3 h4 =>
  obtain⟨rfl,rfl⟩:=hl.stand hs
  exact⟨.short h1 hm h3 h4 h.wrote,.inl ⟨hright,h.wrote⟩⟩
 | failed d hs h1 hm h3 h4 =>
  obtain⟨rfl,rfl⟩:=hl.stand hs
  exact⟨.failed h1 hm h3 h4 h.wrote,.inl ⟨hright,h.wrote⟩⟩
 | wrote d hs hb h3 h4 =>
  have hp:=hl.at_ hs
  refine⟨.wrote wr d hp hb h3 h4,.inr ⟨h3,h4,fun hr=>?_⟩⟩
  have h5:(wr++[d]).Sublist (Y9 env kn lines st0).wrote:=hp.sublist
  rcases hb with hb|hb
  ·have h6:((wr++[d]).map (·.path)).Nodup:=(h5.map _).nodup hr.1
   grind
  ·exact hb (hr.2 d (h5.subset (by simp)))
end Go.Proofs.YtcgpcfcbienapaaGreatDoor
end
section
set_option maxRecDepth 100000
namespace Go.Proofs.YtcgpcfcbienapaaGreatDoor
open Go Go.Ab
open Classical
variable [Sel]
def xU (f:List UInt8→Bool):List UInt8→Bool
 | []=>f []
 | c::cs=>f (c::cs)||xU f cs
def wV:List UInt8→List UInt8→Bool
 | [],s=>s.isEmpty
 | p::ps,s=>if p=42 then xU (wV ps) s else match s with
  | []=>false
  | c::cs=>(decide (p=63)||decide (p=c))&&wV ps cs
theorem XZ (r s:List UInt8):wV (42::r) s=xU (wV r) s:=by
 rfl
def uW:List UInt8→List UInt8→Bool
 | [],[]=>true
 | p::ps,c::cs=>decide (p≠42)&&(decide (p=63)||decide (p=c))&&uW ps cs
 | _,_=>false
theorem KQ (f:List UInt8→Bool):∀s:List UInt8,xU f s=true↔∃n,n≤s.length∧f (s.drop n)=true
 | []=>by
  simp[xU]
 | c::cs=>by
  have ih:=KQ f cs
  simp only[xU,Bool.or_eq_true,ih]
  constructor
  ·rintro(h|⟨n,h1,h2⟩)
   ·exact⟨0,by simp,h⟩
   ·exact⟨n+1,by simp;omega,by simp_all⟩
  ·rintro⟨n,h1,h2⟩
   cases n with
   | zero=>exact .inl h2
   | succ n=>grind
theorem zee {f:List UInt8→Bool} {s:List UInt8} {k:Nat} (hk:k≤s.length) (h:xU f (s.drop k)=true):xU f s=true:=by
 grind [KQ,List.drop_drop]
theorem zgj:∀ {seg u:List UInt8} (r v:List UInt8),uW seg u=true→wV (seg++r) (u++v)=wV r v
 | [],[],r,v,_=>rfl
 | p::ps,c::cs,r,v,h=>by
  simp_all[uW,zgj,wV]
theorem zfM:∀ {seg u:List UInt8},uW seg u=true→seg.length=u.length
 | [],[],_=>rfl
 | p::ps,c::cs,h=>by
  simp only[uW,Bool.and_eq_true]at h
  simp[zfM h.2]
theorem zie:∀ {seg u:List UInt8},uW seg u=true→∀p∈seg,p≠42
 | [],[],_=>by simp
 | p::ps,c::cs,h=>by
  simp only[uW,Bool.and_eq_true,decide_eq_true_eq]at h
  intro x hx
  rcases List.mem_cons.1 hx with rfl|hx
  ·exact h.1.1
  ·exact zie h.2 x hx
theorem zcB:∀ {seg u:List UInt8} {p c:UInt8},uW seg u=true→p≠42→(p=63∨p=c)→uW (seg++[p]) (u++[c])=true
 | [],[],p,c,_,h1,h2=>by simp_all[uW]
 | q::ps,d::cs,p,c,h,h1,h2=>by
  simp_all[uW,zcB]
theorem zfC:∀ {seg:List UInt8} {r s:List UInt8},(∀p∈seg,p≠42)→wV (seg++r) s=true→seg.length≤s.length∧wV r (s.drop seg.length)=true
 | [],r,s,_,h=>⟨by simp,by simpa using h⟩
 | p::ps,r,s,hn,h=>by
  simp only[List.cons_append,wV]at h
  rw[if_neg (hn p (by simp))]at h
  cases s with
  | nil=>cases h
  | cons c cs =>
   simp only[Bool.and_eq_true]at h
   have:=zfC (fun x hx=>hn x (by simp[hx])) h.2
   simp_all
theorem zgo:∀r:List UInt8,wV r []=r.all fun c=>decide (c=42)
 | []=>rfl
 | p::ps=>by
  have ih:=zgo ps
  simp only[wV,xU,List.all_cons]
  by_cases h:p=42
  ·simp[h,ih]
  ·simp[h]
inductive uX (p s:List UInt8) (i k:Nat):Option (Nat × Nat)→Prop
 | free:wV p s=wV (p.drop i) (s.drop k)→uX p s i k none
 | star (st a:Nat):p[st]?=some 42→st+1≤i→a≤k→uW ((p.drop (st+1)).take (i-(st+1))) ((s.drop a).take (k-a))=true→wV p s=wV (p.drop st) (s.drop a)→uX p s i k (some (st,a))
theorem yJ {p:List UInt8} {i:Nat} {c:UInt8} (h:p[i]?=some c):p.drop i=c::p.drop (i+1):=by
 obtain⟨h1,rfl⟩:=List.getElem?_eq_some_iff.1 h
 simp
theorem zfX (q:List UInt8) (a b:Nat) (h:a≤b):q.drop a=(q.drop a).take (b-a)++q.drop b:=by
 grind [List.take_append_drop,List.drop_drop]
theorem zbu {p s:List UInt8} {i k st a:Nat} (h1:p[st]?=some 42) (h2:st+1≤i) (h3:a≤k) (hk:k≤s.length) (hl:uW ((p.drop (st+1)).take (i-(st+1))) ((s.drop a).take (k-a))=true) :
  wV (p.drop st) (s.drop a)=xU (wV (p.drop (st+1))) (s.drop a)∧wV (p.drop (st+1)) (s.drop a)=wV (p.drop i) (s.drop k)∧
  ∀n,n≤(s.drop a).length→wV (p.drop (st+1)) ((s.drop a).drop n)=true→k+n≤s.length∧wV (p.drop i) (s.drop (k+n))=true:=by
 have e1:=zfX p (st+1) i h2
 have e2:=zfX s a k h3
 refine⟨?_,?_,fun n hn h=>?_⟩
 ·rw[yJ h1,XZ]
 ·grind [zgj]
 ·rw[e1]at h
  obtain⟨g1,g2⟩:=zfC (zie hl) h
  have hll:=zfM hl
  have e4:((s.drop a).take (k-a)).length=k-a:=by grind
  rw[hll,e4]at g1 g2
  rw[List.drop_drop,List.drop_drop]at g2
  rw[List.length_drop,List.length_drop]at g1
  rw[show a+(n+(k-a))=k+n by omega]at g2
  grind
theorem uX.toStar {p s:List UInt8} {i k:Nat} {o:Option (Nat × Nat)} (h:uX p s i k o) (hk:k≤s.length) (hc:p[i]?=some 42):uX p s (i+1) k (some (i,k)):=by
 refine .star i k hc (Nat.le_refl _) (Nat.le_refl _) (by simp[uW]) ?_
 cases h with
 | free h=>exact h
 | star st a h1 h2 h3 hl he =>
  obtain⟨g1,g2,g3⟩:=zbu h1 h2 h3 hk hl
  rw[he,g1]
  apply Bool.eq_iff_iff.2
  rw[KQ]
  constructor
  ·rintro⟨n,hn,h⟩
   obtain⟨q1,q2⟩:=g3 n hn h
   rw[yJ hc,XZ]at q2 ⊢
   have q3:xU (wV (p.drop (i+1))) ((s.drop k).drop n)=true:=by simp_all
   grind [zee,List.length_drop]
  ·intro h
   exact⟨0,by simp,by simp_all⟩
theorem uX.lit {p s:List UInt8} {i k:Nat} {o:Option (Nat × Nat)} {c d:UInt8} (h:uX p s i k o) (hc:p[i]?=some c) (hd:s[k]?=some d) (h42:c≠42) (hm:c=63∨c=d):uX p s (i+1) (k+1) o:=by
 cases h with
 | free h =>
  refine .free ?_
  rw[h,yJ hc,yJ hd,wV,if_neg h42]
  simp_all
 | star st a h1 h2 h3 hl he =>
  refine .star st a h1 (by omega) (by omega) ?_ he
  have hi:=(List.getElem?_eq_some_iff.1 hc).1
  have hk:=(List.getElem?_eq_some_iff.1 hd).1
  have e1:(p.drop (st+1)).take (i+1-(st+1))=(p.drop (st+1)).take (i-(st+1))++[c]:=by
   rw[show i+1-(st+1)=(i-(st+1))+1 by omega,List.take_succ_eq_append_getElem (by grind)]
   simp_all
  have e2:(s.drop a).take (k+1-a)=(s.drop a).take (k-a)++[d]:=by
   rw[show k+1-a=(k-a)+1 by omega,List.take_succ_eq_append_getElem (by grind)]
   simp_all
  simp_all[zcB]
def zhp (p s:List UInt8) (i k:Nat):Prop:=∃d,s[k]?=some d∧(p.length≤i∨∃c,p[i]?=some c∧c≠42∧c≠63∧c≠d)
theorem zdb {p s:List UInt8} {i k:Nat} (h:zhp p s i k):wV (p.drop i) (s.drop k)=false:=by
 obtain⟨d,hd,h|⟨c,hc,h1,h2,h3⟩⟩:=h
 ·rw[List.drop_of_length_le h,yJ hd];rfl
 simp_all[yJ,wV]
theorem uX.back {p s:List UInt8} {i k st a:Nat} (h:uX p s i k (some (st,a))) (hn:zhp p s i k):uX p s (st+1) (a+1) (some (st,a+1)):=by
 obtain⟨d,hd,_⟩:=id hn
 have hk:=(List.getElem?_eq_some_iff.1 hd).1
 have hno:=zdb hn
 cases h with
 | star _ _ h1 h2 h3 hl he =>
  obtain⟨g1,g2,g3⟩:=zbu h1 h2 h3 (by omega) hl
  refine .star st (a+1) h1 (Nat.le_refl _) (Nat.le_refl _) (by simp[uW]) ?_
  rw[he,g1,yJ h1,XZ]
  have ha:s[a]?=some (s[a]'(by omega)):=List.getElem?_eq_getElem _
  rw[←g2,yJ ha]at hno
  rw[yJ ha,xU,hno,Bool.false_or]
theorem uX.no {p s:List UInt8} {i k:Nat} (h:uX p s i k none) (hn:zhp p s i k):wV p s=false:=by
 cases h with
 | free h=>simp_all[zdb]
theorem uX.fin {p s:List UInt8} {i:Nat} {o:Option (Nat × Nat)} (h:uX p s i s.length o):wV p s=(p.drop i).all fun c=>decide (c=42):=by
 rw[←zgo]
 cases h with
 | free h=>simp_all
 | star st a h1 h2 h3 hl he =>
  obtain⟨g1,g2,g3⟩:=zbu h1 h2 h3 (Nat.le_refl _) hl
  rw[List.drop_length]at g2
  rw[he,g1]
  apply Bool.eq_iff_iff.2
  rw[KQ]
  constructor
  ·grind
  ·intro h
   exact⟨0,by simp,by simp_all⟩
/-! ### trimmed -/
def K6 (c:UInt8):Nat→List UInt8→List UInt8
 | 0,l=>l
 | n+1,l=>if l.getLast?=some c then K6 c n l.dropLast else l
def WE (c:UInt8):List UInt8→List UInt8
 | []=>[]
 | x::r=>if x=c then WE c r else x::r
def zdz (c:UInt8) (l:List UInt8):List UInt8:=WE c (K6 c l.length l)
theorem zaO {c:UInt8}:∀ {l:List UInt8},WE c l=[]↔(l.all fun x=>decide (x=c))=true
 | []=>by simp[WE]
 | x::r=>by
  have ih:=zaO (c:=c) (l:=r)
  unfold WE
  grind
theorem za5 {c:UInt8}:∀ {n:Nat} {l:List UInt8},l.length≤n→((K6 c n l).all (fun x=>decide (x=c))=true↔(l.all fun x=>decide (x=c))=true)
 | 0,l,h=>by rfl
 | n+1,l,h=>by
  unfold K6
  split
  ·rename_i hl
   rcases List.eq_nil_or_concat l with rfl|⟨m,x,rfl⟩
   ·cases hl
   ·rw[List.concat_eq_append]at hl h ⊢
    simp_all[za5]
  ·rfl
theorem zh9 {c:UInt8} {l:List UInt8}:decide (zdz c l=[])=l.all fun x=>decide (x=c):=by
 apply Bool.eq_iff_iff.2
 rw[decide_eq_true_iff,zdz,zaO,za5 (Nat.le_refl _)]
theorem zb6 {c:UInt8}:∀ {n:Nat} {l:List UInt8},(K6 c n l).length≤l.length
 | 0,l=>Nat.le_refl _
 | n+1,l=>by
  unfold K6
  split
  ·have:=zb6 (c:=c) (n:=n) (l:=l.dropLast);simp at this;omega
  omega
@[simp] theorem zlp:qZ Tryz.prog 145=true:=by kernel_rfl
@[simp] theorem zr4:z8 Tryz.prog (.func 145)=false:=q9 zlp
@[simp] theorem zlU:qZ Tryz.prog 179=true:=by kernel_rfl
@[simp] theorem zqb:z8 Tryz.prog (.func 179)=false:=q9 zlU
@[simp] theorem zkd:qZ Tryz.prog 180=true:=by kernel_rfl
@[simp] theorem zr5:z8 Tryz.prog (.func 180)=false:=q9 zkd
@[simp] theorem zmJ:qZ Tryz.prog 113=true:=by kernel_rfl
@[simp] theorem zqK:z8 Tryz.prog (.func 113)=false:=q9 zmJ
theorem zbI (l:List UInt8) (c:UInt8) (hl:l.length≤1000000000):PC Tryz.prog 180 [.av .str (.s l),.av (.int .u8) (.i .u8 c.toNat)] (.av .str (.s (K6 c l.length l))):=by
 refine zow Tryz.func180 cf0 fun imm0 w0=>?_
 simp (disch:=omega) [zz]
 refine AT.loop' (α:=List UInt8) (fun x=>St.of [(0,.av .str (.s x)),(1,.av (.int .u8) (.i .u8 c.toNat))] [] (fun _=>0) []) (fun x=>x.length≤1000000000∧K6 c x.length x=K6 c l.length l) (fun x=>x.length) l ?_ ?_ ?_
 ·apply Le.of<;>simp[qU,qG,qO,qH,qP,qK,qF,qI,qJ,qN,zX]<;>try omega
 ·exact⟨hl,rfl⟩
 rintro x ⟨hx,hxe⟩ KL hN hE
 refine qM (cf:=cf0) laid mixed _ _ _ (by kernel_rfl) ?_
 rcases List.eq_nil_or_concat x with rfl|⟨m,d,rfl⟩
 ·simp (disch:=omega) [zz]
  refine hE _ _ (by simp) ?_
  have:K6 c l.length l=[]:=by rw[←hxe];rfl
  simp (disch:=omega) [zz,Tryz.f180,this]
 ·rw[List.concat_eq_append]at hx hxe ⊢
  simp only[List.length_append,List.length_singleton]at hx hxe
  have hl1:((m++[d]).length:Int)=m.length+1:=by simp
  have h1:(0:Int)<(m.length:Int)+1:=by omega
  have hg:(m++[d])[m.length]?=some d:=by simp
  have hm:(m++[d]).take m.length=m:=by simp
  by_cases hd:d=c
  ·subst hd
   have hst:K6 d (m.length+1) (m++[d])=K6 d m.length m:=by
    rw[K6,if_pos (by simp),List.dropLast_concat]
   simp (disch:=omega) [zz,h1,hg,hm]
   try (repeat with_reducible refine om ?_)
   refine hN _ m ?_ ⟨by omega,by rw[←hxe,hst]⟩ (by simp)
   apply Le.of<;>simp[qU,qG,qO,qH,qP,qK,qF,qI,qJ,qN,zX]<;>try omega
  ·have hd':¬(d.toNat:Int)=c.toNat:=fun e=>hd (UInt8.toNat_inj.1 (by omega))
   have hst:K6 c (m.length+1) (m++[d])=m++[d]:=by
    rw[K6,if_neg (by simp[hd])]
   simp (disch:=omega) [zz,h1,hg,hm,hd']
   try (repeat with_reducible refine om ?_)
   refine hE _ _ (by simp) ?_
   simp (disch:=omega) [zz,Tryz.f180,←hxe,hst]
theorem zdO (l:List UInt8) (c:UInt8) (hl:l.length≤1000000000):PC Tryz.prog 179 [.av .str (.s l),.av (.int .u8) (.i .u8 c.toNat)] (.av .str (.s (WE c l))):=by
 refine zow Tryz.func179 cf0 fun imm0 w0=>?_
 simp (disch:=omega) [zz]
 refine AT.loop' (α:=List UInt8) (fun x=>St.of [(0,.av .str (.s x)),(1,.av (.int .u8) (.i .u8 c.toNat))] [] (fun _=>0) []) (fun x=>x.length≤1000000000∧WE c x=WE c l) (fun x=>x.length) l ?_ ?_ ?_
 ·apply Le.of<;>simp[qU,qG,qO,qH,qP,qK,qF,qI,qJ,qN,zX]<;>try omega
 ·exact⟨hl,rfl⟩
 rintro x ⟨hx,hxe⟩ KL hN hE
 refine qM (cf:=cf0) laid mixed _ _ _ (by kernel_rfl) ?_
 cases x with
 | nil =>
  simp (disch:=omega) [zz]
  refine hE _ _ (by simp) ?_
  have:WE c l=[]:=by rw[←hxe];rfl
  simp (disch:=omega) [zz,Tryz.f179,this]
 | cons d m =>
  simp only[List.length_cons]at hx
  have h1:(0:Int)<(m.length:Int)+1:=by omega
  by_cases hd:d=c
  ·subst hd
   have hst:WE d (d::m)=WE d m:=by rw[WE,if_pos rfl]
   simp (disch:=omega) [zz,h1]
   try (repeat with_reducible refine om ?_)
   refine hN _ m ?_ ⟨by omega,by rw[←hxe,hst]⟩ (by simp)
   apply Le.of<;>simp[qU,qG,qO,qH,qP,qK,qF,qI,qJ,qN,zX]<;>try omega
  ·have hd':¬(d.toNat:Int)=c.toNat:=fun e=>hd (UInt8.toNat_inj.1 (by omega))
   have hst:WE c (d::m)=d::m:=by rw[WE,if_neg hd]
   simp (disch:=omega) [zz,h1,hd']
   try (repeat with_reducible refine om ?_)
   refine hE _ _ (by simp) ?_
   simp (disch:=omega) [zz,Tryz.f179,←hxe,hst]
theorem zkH (l:List UInt8) (hl:l.length≤1000000000):PC Tryz.prog 145 [.av .str (.s l),.av .str (.s [42])] (.av .str (.s (zdz 42 l))):=by
 refine zow Tryz.func145 cf0 fun imm0 w0=>?_
 by_cases h0:l=[]
 ·subst h0
  have:zdz 42 []=[]:=rfl
  simp (disch:=omega) [zz,Tryz.f145,this]
 ·have hr:=zb6 (c:=42) (n:=l.length) (l:=l)
  simp (disch:=omega) [zz,h0]
  refine zcd (zbI l 42 hl) ?_;(simp (disch:=first|omega|assumption) [zz])
  refine zcd (zdO (K6 42 l.length l) 42 (by omega)) ?_;(simp (disch:=first|omega|assumption) [zz,Tryz.f145,zdz])
def stV:Option (Nat × Nat)→Int × Int
 | none=>(-1,0)
 | some (st,a)=>(st,a)
def stM (n m:Nat):Option (Nat × Nat)→Nat
 | none=>n*(n+m+1)
 | some (_,a)=>(n-a)*(n+m+1)
set_option maxHeartbeats 1000000 in
theorem zom (p s:List UInt8) (hp:p.length≤1000000000) (hs:s.length≤1000000000):PC Tryz.prog 113 [.av .str (.s p),.av .str (.s s)] (.av .bool (.b (wV p s))):=by
 refine zow Tryz.func113 cf0 fun imm0 w0=>?_
 simp (disch:=omega) [zz]
 refine AT.loop' (α:=Nat × Nat × Option (Nat × Nat)) (fun x=>St.of [(0,.av .str (.s p)),(1,.av .str (.s s)),(5,.av (.int .i64) (.i .i64 x.1)),(6,.av (.int .i64) (.i .i64 x.2.1)),(7,.av (.int .i64) (.i .i64 (stV x.2.2).1)),(8,.av (.int .i64) (.i .i64 (stV x.2.2).2))] [] (fun _=>0) [])
  (fun x=>x.1≤p.length∧x.2.1≤s.length∧uX p s x.1 x.2.1 x.2.2) (fun x=>stM s.length p.length x.2.2+(s.length-x.2.1)+(p.length-x.1)) (0,0,none) ?_ ?_ ?_
 ·apply Le.of<;>simp[qU,qG,qO,qH,qP,qK,qF,qI,qJ,qN,stV]<;>try omega
 ·exact⟨by simp,by simp,.free (by simp)⟩
 rintro⟨i,k,o⟩ ⟨hi,hk,hO⟩ KL hN hE
 simp only at hi hk hO hN
 refine qM (cf:=cf0) laid mixed _ _ _ (by kernel_rfl) ?_
 by_cases hks:k<s.length
 rotate_left
 ·have hks':¬(k:Int)<s.length:=by omega
  have hke:k=s.length:=by omega
  subst hke
  have hfin:=hO.fin
  rw[←zh9]at hfin
  have hdl:(p.drop i).length≤1000000000:=by rw[List.length_drop];omega
  simp (disch:=omega) [zz,hks']
  refine hE _ _ (by simp) ?_
  simp (disch:=omega) [zz]
  (repeat with_reducible refine om ?_)
  refine qL (zkH (p.drop i) hdl) rfl rfl (by simp) (by simp[qS,coC,TV.er,AV.er]) ?_
  simp (disch:=omega) [zz,Tryz.f113,hfin]
 have hks':(k:Int)<s.length:=by omega
 have hd:s[k]?=some s[k]:=List.getElem?_eq_getElem hks
 obtain⟨d,hdd⟩:∃d,d=s[k]:=⟨_,rfl⟩
 have hsd:s[k]=d:=hdd.symm
 rw[←hdd]at hd
  -- what happens where it doesn't go on
 have hno:∀(Q:zhp p s i k),True:=fun _=>trivial
 by_cases hip:i<p.length
 rotate_left
 ·have hip':¬(i:Int)<p.length:=by omega
  have hng:zhp p s i k:=⟨d,hd,.inl (by omega)⟩
  cases o with
  | none =>
   have hf:=hO.no hng
   simp (disch:=omega) [zz,hks',hip',stV]
   refine hE _ _ (by simp) ?_
   simp (disch:=omega) [zz,Tryz.f113,hf]
  | some sa =>
   obtain⟨st,a⟩:=sa
   have hb:=hO.back hng
   have ha:a≤k:=by cases hO;assumption
   have hst:st<p.length:=by cases hO with|star _ _ h1=>exact(List.getElem?_eq_some_iff.1 h1).1
   have h0:(0:Int)≤st:=by omega
   simp (disch:=omega) [zz,hks',hip',stV,h0]
   refine hN _ (st+1,a+1,some (st,a+1)) ?_ ⟨by simp only;omega,by simp only;omega,hb⟩ ?_
   ·apply Le.of<;>simp[qU,qG,qO,qH,qP,qK,qF,qI,qJ,qN,stV]<;>try omega
   ·simp only[stM]
    have e:s.length-a=(s.length-(a+1))+1:=by omega
    rw[e,Nat.succ_mul]
    omega
 have hip':(i:Int)<p.length:=by omega
 have hc:p[i]?=some p[i]:=List.getElem?_eq_getElem hip
 obtain⟨c,hcc⟩:∃c,c=p[i]:=⟨_,rfl⟩
 have hpc:p[i]=c:=hcc.symm
 rw[←hcc]at hc
 by_cases h42:c=42
 ·subst h42
  have hn:=hO.toStar hk hc
  simp (disch:=omega) [zz,hks',hip',hpc]
  (repeat with_reducible refine om ?_)
  refine hN _ (i+1,k,some (i,k)) ?_ ⟨by omega,hk,hn⟩ ?_
  ·apply Le.of<;>simp[qU,qG,qO,qH,qP,qK,qF,qI,qJ,qN,stV]<;>try omega
  ·have:stM s.length p.length (some (i,k))≤stM s.length p.length o:=by
    cases o with
    | none=>simp only[stM];exact Nat.mul_le_mul_right _ (by omega)
    | some sa =>
     obtain⟨st,a⟩:=sa
     have ha:a≤k:=by cases hO;assumption
     simp only[stM];exact Nat.mul_le_mul_right _ (by omega)
   simp only
   omega
 have h42':¬(c.toNat:Int)=42:=by have:=YH (n:=42) (by omega) h42;simpa using this
 by_cases hm:c=63∨c=d
 ·have hn:=hO.lit hc hd h42 hm
  have go:KL .normal=KL .normal:=rfl
  rcases Classical.em (c=63)with h63|h63
  ·subst h63
   simp (disch:=omega) [zz,hks',hip',hpc]
   (repeat with_reducible refine om ?_)
   refine hN _ (i+1,k+1,o) ?_ ⟨by simp only;omega,by simp only;omega,hn⟩ (by simp only;omega)
   apply Le.of<;>simp[qU,qG,qO,qH,qP,qK,qF,qI,qJ,qN,stV]<;>try omega
  ·have hcd:c=d:=hm.resolve_left h63
   subst hcd
   have h63':¬(c.toNat:Int)=63:=by have:=YH (n:=63) (by omega) h63;simpa using this
   simp (disch:=omega) [zz,hks',hip',hpc,hsd,h42',h63']
   (repeat with_reducible refine om ?_)
   refine hN _ (i+1,k+1,o) ?_ ⟨by simp only;omega,by simp only;omega,hn⟩ (by simp only;omega)
   apply Le.of<;>simp[qU,qG,qO,qH,qP,qK,qF,qI,qJ,qN,stV]<;>try omega
 ·have h63:¬c=63:=fun e=>hm (.inl e)
  have hcd:¬c=d:=fun e=>hm (.inr e)
  have h63':¬(c.toNat:Int)=63:=by have:=YH (n:=63) (by omega) h63;simpa using this
  have hcd':¬(c.toNat:Int)=d.toNat:=fun e=>hcd (UInt8.toNat_inj.1 (by omega))
  have hng:zhp p s i k:=⟨d,hd,.inr ⟨c,hc,h42,h63,hcd⟩⟩
  cases o with
  | none =>
   have hf:=hO.no hng
   simp (disch:=omega) [zz,hks',hip',hpc,hsd,h42',h63',hcd',stV]
   (repeat with_reducible refine om ?_)
   refine hE _ _ (by simp) ?_
   simp (disch:=omega) [zz,Tryz.f113,hf]
  | some sa =>
   obtain⟨st,a⟩:=sa
   have hb:=hO.back hng
   have ha:a≤k:=by cases hO;assumption
   have hst:st<p.length:=by cases hO with|star _ _ h1=>exact(List.getElem?_eq_some_iff.1 h1).1
   have h0:(0:Int)≤st:=by omega
   simp (disch:=omega) [zz,hks',hip',hpc,hsd,h42',h63',hcd',stV,h0]
   (repeat with_reducible refine om ?_)
   refine hN _ (st+1,a+1,some (st,a+1)) ?_ ⟨by simp only;omega,by simp only;omega,hb⟩ ?_
   ·apply Le.of<;>simp[qU,qG,qO,qH,qP,qK,qF,qI,qJ,qN,stV]<;>try omega
   ·simp only[stM]
    have e:s.length-a=(s.length-(a+1))+1:=by omega
    rw[e,Nat.succ_mul]
    omega
end Go.Proofs.YtcgpcfcbienapaaGreatDoor
end
section
set_option maxRecDepth 100000
namespace Go.Proofs.YtcgpcfcbienapaaGreatDoor
open Go Go.Ab
open Classical
variable [Sel]
end Go.Proofs.YtcgpcfcbienapaaGreatDoor
end
section
set_option maxRecDepth 100000
namespace Go.Proofs.YtcgpcfcbienapaaGreatDoor
open Go Go.Ab
open Classical
variable [Sel]
theorem PH:∀(x:List UInt8),(47:UInt8)∉x→qT 47 x=[x]
 | [],_=>rfl
 | b::l,h=>by
  simp only[List.mem_cons,not_or]at h
  rw[qT,if_neg (fun e=>h.1 e.symm),PH l h.2]
end Go.Proofs.YtcgpcfcbienapaaGreatDoor
end
section
set_option maxRecDepth 100000
namespace Go.Proofs.YtcgpcfcbienapaaGreatDoor
open Go Go.Ab
open Classical
variable [Sel] [SelPow] [SelMax]
@[simp] theorem zlb:qZ Tryz.prog 104=true:=by kernel_rfl
@[simp] theorem zqQ:z8 Tryz.prog (.func 104)=false:=q9 zlb
@[simp] theorem zoa:qZ Tryz.prog 99=true:=by kernel_rfl
@[simp] theorem zrC:z8 Tryz.prog (.func 99)=false:=q9 zoa
@[simp] theorem znK:qZ Tryz.prog 98=true:=by kernel_rfl
@[simp] theorem zrR:z8 Tryz.prog (.func 98)=false:=q9 znK
@[simp] theorem zoG:qZ Tryz.prog 97=true:=by kernel_rfl
@[simp] theorem zsn:z8 Tryz.prog (.func 97)=false:=q9 zoG
@[simp] theorem zkP:qZ Tryz.prog 101=true:=by kernel_rfl
@[simp] theorem zqa:z8 Tryz.prog (.func 101)=false:=q9 zkP
@[simp] theorem zx7:qZ Tryz.prog 66=true:=by kernel_rfl
@[simp] theorem zxg:z8 Tryz.prog (.func 66)=false:=q9 zx7
@[simp] theorem zx8:qZ Tryz.prog 75=true:=by kernel_rfl
@[simp] theorem zxp:z8 Tryz.prog (.func 75)=false:=q9 zx8
@[simp] theorem zkS:qZ Tryz.prog 107=true:=by kernel_rfl
@[simp] theorem zqo:z8 Tryz.prog (.func 107)=false:=q9 zkS
@[simp] theorem zA6:qZ Tryz.prog 139=true:=by kernel_rfl
@[simp] theorem zAL:z8 Tryz.prog (.func 139)=false:=q9 zA6
@[simp] theorem zwL:qZ Tryz.prog 35=true:=by kernel_rfl
@[simp] theorem zxy:z8 Tryz.prog (.func 35)=false:=q9 zwL
@[simp] theorem zwQ:qZ Tryz.prog 72=true:=by kernel_rfl
@[simp] theorem zxz:z8 Tryz.prog (.func 72)=false:=q9 zwQ
@[simp] theorem zG9:qZ Tryz.prog 40=true:=by kernel_rfl
@[simp] theorem zGE:z8 Tryz.prog (.func 40)=false:=q9 zG9
def jG (d:DoV):AV:=.agg [.i .i64 d.kind,.s d.path,.s d.data,.i .i64 d.why]
def zH (k:KnV):AV:=.agg [.s k.path,.b k.is,.s k.data]
def zK (c:CmdV):AV:=.agg [.sl .no (strs c.words),.s c.rest]
def Z7 (x:Txt × Txt):AV:=.agg [.s x.1,.s x.2]
def zS (l:List (Txt × Txt)):AV:=.sl .no (l.map Z7)
abbrev kQ:TyD:=.struct [138,24,9,137,9,4,140]
abbrev QE:TyD:=.struct [25,9]
abbrev YR:TyD:=.map 9 4
def knE (l:List KnV):List (AV × AV):=l.map fun k=>(.s k.path,zH k)
def QY (l:List Txt):List (AV × AV):=l.map fun p=>(.s p,.b true)
noncomputable def qW (ta ea:AV) (buf:Txt) (K:Nat) (asks:Txt) (waits:Bool) (over:DoV):HObj:=.var kQ (.agg [ta,ea,.s buf,.map (some K),.s asks,.b waits,jG over])
theorem ZA {ta ea:AV} {buf:Txt} {K:Nat} {asks:Txt} {waits:Bool} {over:DoV} (h1:ta.erk=ta) (h2:ea.erk=ea):(qW ta ea buf K asks waits over).er=qW ta ea buf K asks waits over:=by
 simp[qW,HObj.er_var,AV.erk,AV.erks,h1,h2,jG]
theorem zg8 (R:Nat) (e:Int) (ta ea:AV) (buf:Txt) (K:Nat) (asks:Txt) (waits:Bool) (over:DoV) (h1:ta.erk=ta) (h2:ea.erk=ea) :
  q7 Tryz.prog 104 [.av .ptr (.ptr R kQ []),.av (.int .i64) (.i .i64 e)] [(R,qW ta ea buf K asks waits over)] fun r H'=>r=.tup []∧H'=[(R,qW ta ea buf K asks waits ⟨4,[],[],e⟩)]:=by
 refine zov Tryz.func104 cf0 fun imm0 w0=>?_
 simp (disch:=omega) [zz,qW]
 simp (disch:=omega) [zz,Tryz.f104,h1,h2,jG]
theorem ziH (R:Nat) (s:Txt) (ta ea:AV) (buf:Txt) (K:Nat) (asks:Txt) (waits:Bool) (over:DoV) (h1:ta.erk=ta) (h2:ea.erk=ea) (hb:buf.length≤1000000000) (hs:s.length≤1000000000000000) :
  q7 Tryz.prog 99 [.av .ptr (.ptr R kQ []),.av .str (.s s)] [(R,qW ta ea buf K asks waits over)] fun r H'=>r=.tup []∧H'=[(R,if 65536<buf.length+s.length then qW ta ea buf K asks waits ⟨4,[],[],6⟩ else qW ta ea (buf++s) K asks waits over)]:=by
 refine zov Tryz.func99 cf0 fun imm0 w0=>?_
 by_cases h:65536<buf.length+s.length
 ·have h':(65536:Int)<(buf.length:Int)+s.length:=by omega
  simp (disch:=omega) [zz,qW,h']
  refine qE (R:=fun r H'=>r=.tup []∧H'=[(R,qW ta ea buf K asks waits ⟨4,[],[],6⟩)]) [(R,qW ta ea buf K asks waits over)] [] (by simp[qW]) rfl (by simp[qQ]) (by simp) ?_ ?_
  ·have:=zg8 R 6 ta ea buf K asks waits over h1 h2
   have he:=ZA (buf:=buf) (K:=K) (asks:=asks) (waits:=waits) (over:=over) h1 h2
   simp only[q8.er_cons,q8.er_nil,he]
   exact q7.args this (by simp[qS,coC,TV.er,AV.er])
  rintro r H' ⟨rfl,rfl⟩ _
  refine⟨_,by simpa using HSub.refl _,?_⟩
  have he:=ZA (buf:=buf) (K:=K) (asks:=asks) (waits:=waits) (over:=(⟨4,[],[],6⟩:DoV)) h1 h2
  simp (disch:=omega) [zz,Tryz.f99,he,h]
  rfl
 ·have h':¬(65536:Int)<(buf.length:Int)+s.length:=by omega
  simp (disch:=omega) [zz,qW,h',h]
  refine⟨by omega,?_⟩
  simp (disch:=omega) [zz,Tryz.f99,h1,h2,jG,h]
noncomputable def zA (R:Nat):HObj:=.var .ptr (.ptr R kQ [])
abbrev zry:Cfg:=⟨fun n=>n==2||n==3,fun _=>false⟩
theorem zdh (R:Nat) (tv:AV) (ht:tv.er=tv) (ht2:tv.erk=tv) :
  q7 Tryz.prog 98 [.av .ptr (.ptr R kQ []),.av .func tv] [] fun r H'=>∃br bt,r=.av .func (.fn 135 [.ptr br .ptr [],.ptr bt .func []])∧H'=[(bt,.var .func tv),(br,zA R)]:=by
 refine zov Tryz.func98 zry fun imm0 w0=>?_
 simp (disch:=omega) [zz]
 intro br bt hb
 simp (disch:=omega) [zz,Tryz.f98,ht,ht2,zA]
 exact⟨br,bt,⟨rfl,rfl⟩,rfl,rfl⟩
end Go.Proofs.YtcgpcfcbienapaaGreatDoor
end
