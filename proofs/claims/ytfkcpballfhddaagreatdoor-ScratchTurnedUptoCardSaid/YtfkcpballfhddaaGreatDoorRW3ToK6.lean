/- The document's tool, command by command: plain. No condition. -/
import Derived.Test.YtfkcpballfhddaaGreatDoorK20ToBX1
set_option linter.unusedSimpArgs false
set_option linter.unusedVariables false
set_option linter.unusedSectionVars false
set_option maxHeartbeats 64000000
set_option maxRecDepth 100000
namespace Go.Proofs.YtfkcpballfhddaaGreatDoor
open Go Go.Ab
open Classical
section
variable [Sel] [SelPow] [SelMax]
def zhX (l:List Txt):Txt:=l.flatMap (·++[10])
noncomputable def cK (env:List (Txt × Txt)) (kn:List KnV) (line:Txt) (ws:List Txt) (s:StV):StV :=
 let w:=ws.getD 0 []
 let arg:=ws.getD 1 []
 if w=qW\/w=jD then
  (
   if (QO kn arg s).1.stop.kind≠0 then(QO kn arg s).1
   else if (QO kn arg s).2.is=true then Z4 (QO kn arg s).2.data (QO kn arg s).1
   else if w=qW then ZG 10 (QO kn arg s).1 else(QO kn arg s).1)
 else if w=zC then(zfO kn (ws.getD 2 []) 501 arg s []).1
 else if w=zH then Z4 (PY line++[10]) s
 else if w=jL then(match env.find? fun x=>decide (x.1=arg)with
  | some x=>Z4 x.2 s
  | none=>ZG 10 s)
 else if w=zZ then ZG 15 s
 else if w=zL then(if ((qZ s.buf).filter fun x=>Lib.contains x arg)=[] then ZG 15 s else s)
 else if w=zS then Z4 (zhX ((qZ s.buf).filter fun x=>Lib.contains x arg)) { s with buf:=[] }
 else if w=qV then { s with wrote:=s.wrote++[⟨2,arg,s.buf,0⟩],buf:=[] }
 else Z4 (zbj w arg s.buf) { s with buf:=[] }
noncomputable def US (env:List (Txt × Txt)) (kn:List KnV):List Txt->StV->StV
 | [],s=>{ s with stop:=⟨3,[],[],0⟩ }
 | x::r,s=>if xX (z6 x)=true then US env kn r s
  else if (cK env kn x (z6 x) s).stop.kind≠0 then cK env kn x (z6 x) s
  else US env kn r (cK env kn x (z6 x) s)
structure D8 (s:StV):Prop where
 stop:s.stop=do0
 len:s.asked.length<=500
theorem D8.d {s:StV} (h:D8 s):zcB s []:=⟨h.stop,List.nodup_nil,by simp,h.len⟩
theorem D8.of {s s':StV} (h:D8 s) (h1:s'.stop=s.stop) (h2:s'.asked=s.asked):D8 s':=⟨h1.trans h.stop,by rw[h2];exact h.len⟩
theorem zc1 {t:Txt} {s:StV} (h:D8 s) (hk:(Z4 t s).stop.kind=0):D8 (Z4 t s):=by
 unfold Z4 at hk |-
 split
 ·simp_all[ZG]
 ·exact⟨h.stop,h.len⟩
structure zqa (env:List (Txt × Txt)) (kn:List KnV) (c:CfV) (td:List TdV) (r:StV):Prop where
 go:r.stop.kind=0->D8 r/\∃d',ZF env kn c ⟨td,r,d'⟩
 stop:r.stop.kind≠0->∃td' d',ZF env kn c ⟨td',r,d'⟩
theorem zqa.one {env:List (Txt × Txt)} {kn:List KnV} {x:CmdV} {td:List TdV} {s r:StV} {d d':List Txt} (h:D8 s) (e:PN env x ⟨td,s,d⟩=⟨td,r,d'⟩) (hi:r.stop.kind=0->D8 r):zqa env kn ⟨.cmd x::td,s,d⟩ td r:=by
 have hk0:s.stop.kind=0:=by rw[h.stop];rfl
 have hr:ZF env kn ⟨.cmd x::td,s,d⟩ ⟨td,r,d'⟩:=by
  refine .step hk0 ?_
  have:KU env kn ⟨.cmd x::td,s,d⟩=PN env x ⟨td,s,d⟩:=rfl
  rw[this,e];exact .refl _
 exact⟨fun hk=>⟨hi hk,d',hr⟩,fun _=>⟨td,d',hr⟩⟩
theorem zbV {s:Txt} {c:CmdV} (h:JF s=some (some c)):∃w ws,z6 s=w::ws/\¬w.head?=some 35/\c.words.getD 0 []=w/\((w=zH/\c.rest=PY s)\/(w≠zH/\c.words=w::ws/\ZO (z6 s)=true)):=by
 unfold JF at h
 cases hw:z6 s with
 | nil=>simp_all
 | cons w ws =>
  rw[hw]at h
  simp only at h
  split at h
  ·simp at h
  rename_i h1
  refine⟨w,ws,rfl,h1,?_⟩
  split at h
  ·rename_i h2
   simp only[Option.some.injEq]at h
   subst h
   refine⟨rfl,.inl ⟨h2,?_⟩⟩
   grind [zh2]
  split at h
  ·simp at h
  ·rename_i h2 h3
   simp only[Option.some.injEq]at h
   have hg:ZO (z6 s)=true:=by
    cases hb:ZO (z6 s)with
    | true=>rfl
    | false =>
     have:=(GD s).2 hb
     simp_all[JF]
   grind
theorem zhN {α:Type} (g:α->Bool) (l:List α):(l.any g=true)<->¬(l.filter g=[]):=by
 simp
theorem zmZ {env:List (Txt × Txt)} {kn:List KnV} {line:Txt} {c:CmdV} (hc:JF line=some (some c)) (td:List TdV) {s:StV} (d:List Txt) (h:D8 s):zqa env kn ⟨.cmd c::td,s,d⟩ td (cK env kn line (z6 line) s):=by
 have hk0:s.stop.kind=0:=by rw[h.stop];rfl
 obtain⟨w,ws,hw,hh,hc0,hcase⟩:=zbV hc
 rw[hw]
 have hst:KU env kn ⟨.cmd c::td,s,d⟩=PN env c ⟨td,s,d⟩:=rfl
 have h1st:ZF env kn ⟨.cmd c::td,s,d⟩ (PN env c ⟨td,s,d⟩):=.step hk0 (by rw[hst];exact .refl _)
 unfold cK
 simp only[List.getD_cons_zero]
 rcases hcase with⟨ht,hrest⟩|⟨ht,hcw,hg⟩
 ·-- a text
  subst ht
  have e:PN env c ⟨td,s,d⟩=⟨td,Z4 (PY line++[10]) s,d⟩:=by
   unfold PN
   simp only[hc0,hrest]
   rfl
  rw[if_neg (by decide),if_neg (by decide),if_pos rfl]
  exact .one h e (zc1 h)
 have ha:c.words.getD 1 []=(w::ws).getD 1 []:=by rw[hcw]
 have ha2:c.words.getD 2 []=(w::ws).getD 2 []:=by rw[hcw]
 obtain⟨arg,harg⟩:∃arg,arg=(w::ws).getD 1 []:=⟨_,rfl⟩
 obtain⟨arg2,harg2⟩:∃arg,arg=(w::ws).getD 2 []:=⟨_,rfl⟩
 rw[<-harg]at ha |-
 rw[<-harg2]at ha2 |-
 have hcmd:PN env c ⟨td,s,d⟩=_:=rfl
 conv at hcmd=>rhs;unfold PN
 simp only[hc0,ha,ha2]at hcmd
 by_cases h1:w=qW\/w=jD
 ·rw[if_pos h1]
  have key:∀co:CoV,(co=.there .add/\w=qW)\/(co=.tr/\w≠qW)->PN env c ⟨td,s,d⟩=c9 arg co ⟨td,s,d⟩->zqa env kn ⟨.cmd c::td,s,d⟩ td (if (QO kn arg s).1.stop.kind≠0 then(QO kn arg s).1 else if (QO kn arg s).2.is=true then Z4 (QO kn arg s).2.data (QO kn arg s).1 else if w=qW then ZG 10 (QO kn arg s).1 else(QO kn arg s).1):=by
   intro co hco e
   rw[e]at h1st
   rcases znu env kn arg co ⟨td,s,d⟩ hk0 h.len with⟨k,g1,g2,g3,g4,g5,g6,g7⟩|⟨g1,td',g2⟩
   ·simp only at g1 g3 g4 g5 g6 g7
    have hk:(QO kn arg s).2=k:=by rw[g1]
    have hi1:D8 (QO kn arg s).1:=⟨g3.trans h.stop,g6⟩
    rw[if_neg (by grind),hk]
    have hr:=h1st.trans g7
    cases his:k.is with
    | true =>
     rw[if_pos rfl]
     have e2:coS co k ⟨td,(QO kn arg s).1,d⟩=⟨td,Z4 k.data (QO kn arg s).1,d⟩:=by
      rcases hco with⟨rfl,_⟩|⟨rfl,_⟩<;>simp[coS,his,thS,CfV.map]
     rw[e2]at hr
     exact⟨fun hk=>⟨zc1 hi1 hk,d,hr⟩,fun _=>⟨td,d,hr⟩⟩
    | false =>
     rw[if_neg (by decide)]
     rcases hco with⟨rfl,hw⟩|⟨rfl,hw⟩
     ·rw[if_pos hw]
      have e2:coS (.there .add) k ⟨td,(QO kn arg s).1,d⟩=⟨td,ZG 10 (QO kn arg s).1,d⟩:=by grind [coS,CfV.map]
      rw[e2]at hr
      exact⟨fun hk=>by grind [ZG],fun _=>⟨td,d,hr⟩⟩
     ·rw[if_neg hw]
      have e2:coS .tr k ⟨td,(QO kn arg s).1,d⟩=⟨td,(QO kn arg s).1,d⟩:=by grind [coS]
      rw[e2]at hr
      exact⟨fun hk=>⟨hi1,d,hr⟩,fun _=>⟨td,d,hr⟩⟩
   ·simp only at g1 g2
    rw[if_pos g1]
    exact⟨fun hk=>absurd hk g1,fun _=>⟨td',d,h1st.trans g2⟩⟩
  grind
 rw[if_neg h1]
 simp only[not_or]at h1
 rw[if_neg h1.1,if_neg h1.2]at hcmd
 by_cases h2:w=zC
 ·rw[if_pos h2]at hcmd |-
  rw[hcmd]at h1st
  have hsc:=zgJ (env:=env) (kn:=kn) (w:=arg2) 501 arg s [] td h.d (by simp) (by simp)
  refine⟨fun hk=>?_,fun hk=>?_⟩
  ·obtain⟨g1,g2⟩:=hsc.go hk
   exact⟨⟨g1.stop,g1.len⟩,_,h1st.trans g2⟩
  ·obtain⟨td',d',g2⟩:=hsc.stop hk
   exact⟨td',d',h1st.trans g2⟩
 rw[if_neg h2]at hcmd |-
 rw[if_neg ht]at hcmd |-
 by_cases h3:w=jL
 ·rw[if_pos h3]at hcmd |-
  cases hf:env.find? fun x=>decide (x.1=arg)with
  | some x =>
   rw[hf]at hcmd
   exact .one h hcmd (zc1 h)
  | none =>
   rw[hf]at hcmd
   exact .one h hcmd fun hk=>by grind [ZG]
 rw[if_neg h3]at hcmd |-
 by_cases h4:w=qV
 ·rw[if_pos h4]at hcmd
  rw[if_neg (by rw[h4];decide),if_neg (by rw[h4];decide),if_neg (by rw[h4];decide),if_pos h4]
  exact .one h hcmd fun _=>⟨h.stop,h.len⟩
 rw[if_neg h4]at hcmd
 by_cases h5:w=zL
 ·rw[if_pos h5]at hcmd
  rw[if_neg (by rw[h5];decide),if_pos h5]
  have hfa:=zhN (fun x=>Lib.contains x arg) (qZ s.buf)
  by_cases hb:(qZ s.buf).any (fun x=>Lib.contains x arg)=true
  ·rw[if_pos hb]at hcmd
   rw[if_neg (hfa.1 hb)]
   exact .one h hcmd fun _=>h
  ·rw[if_neg hb]at hcmd
   rw[if_pos (Classical.byContradiction fun e=>hb (hfa.2 e))]
   exact .one h hcmd fun hk=>by grind [ZG]
 rw[if_neg h5]at hcmd
 by_cases h6:w=zZ
 ·rw[if_pos h6]at hcmd |-
  exact .one h hcmd fun hk=>by grind [ZG]
 rw[if_neg h6]at hcmd |-
 rw[if_neg h5]
 by_cases h7:w=zS
 ·rw[if_pos h7]
  have e:zbj w arg s.buf=zhX ((qZ s.buf).filter fun x=>Lib.contains x arg):=by
   unfold zbj zhX
   rw[if_neg (by rw[h7];decide),if_neg (by rw[h7];decide),if_neg (by rw[h7];decide),if_neg (by rw[h7];decide),if_pos h7]
  have hcmd':PN env c ⟨td,s,d⟩=⟨td,Z4 (zbj w arg s.buf) { s with buf:=[] },d⟩:=hcmd
  rw[e]at hcmd'
  exact .one h hcmd' (zc1 ⟨h.stop,h.len⟩)
 rw[if_neg h7,if_neg h4]
 exact .one h hcmd (zc1 ⟨h.stop,h.len⟩)
theorem za8 {env:List (Txt × Txt)} {kn:List KnV}:∀(l:List Txt) (i:Nat) (cs:List CmdV) (s:StV) (d:List Txt),QE i l=.ok cs->D8 s->∃c',ZF env kn ⟨cs.map .cmd,s,d⟩ c'/\c'.st=US env kn l s/\c'.st.stop.kind≠0
 | [],i,cs,s,d,hc,h=>by
  cases hc
  have hk0:s.stop.kind=0:=by rw[h.stop];rfl
  exact⟨_,.step hk0 (.refl _),rfl,by simp[KU,CfV.map]⟩
 | x::r,i,cs,s,d,hc,h=>by
  rw[QE]at hc
  rw[US]
  cases hr:JF x with
  | none=>simp_all
  | some y =>
   rw[hr]at hc
   cases y with
   | none =>
    simp only at hc
    have hp:xX (z6 x)=true:=by
     grind [JF,xX]
    rw[if_pos hp]
    exact za8 r (i+1) cs s d hc h
   | some c =>
    simp only at hc
    cases hcs:QE (i+1) r with
    | error e=>simp_all
    | ok l =>
     rw[hcs]at hc
     simp only at hc
     cases hc
     obtain⟨w,ws,hw,hh,_⟩:=zbV hr
     have hp:¬xX (z6 x)=true:=by simp_all[xX]
     rw[if_neg hp]
     have hs:=zmZ (env:=env) (kn:=kn) hr (l.map .cmd) d h
     by_cases hk:(cK env kn x (z6 x) s).stop.kind≠0
     ·rw[if_pos hk]
      obtain⟨td',d',g⟩:=hs.stop hk
      grind
     ·rw[if_neg hk]
      obtain⟨g1,d',g2⟩:=hs.go (by omega)
      obtain⟨c',g3,g4,g5⟩:=za8 r (i+1) l _ d' hcs g1
      exact⟨c',g2.trans g3,g4,g5⟩
theorem KY.far {env:List (Txt × Txt)} {cs:List CmdV} {kn:List KnV} {wr:List DoV} {r:qN} {dd:DoV} {lines:List Txt} {i:Nat} (h:KY env (zeK cs) kn wr r dd) (hc:QE i lines=.ok cs) :
  (US env kn lines st0).stop=dd/\(US env kn lines st0).wrote=wr:=by
 obtain⟨c,h1,h2,h3,h4⟩:=h.ref
 obtain⟨c',g1,g2,g3⟩:=za8 (env:=env) (kn:=kn) lines i cs st0 [] hc ⟨rfl,by simp[st0]⟩
 have:=ZF.det h1 g1 h3 g3
 simp_all
theorem ZF.to {env:List (Txt × Txt)} {kn:List KnV} {a b c:CfV} (h:ZF env kn a b) (g:ZF env kn a c) (hc:c.st.stop.kind≠0):ZF env kn b c:=by
 induction h with
 | refl=>exact g
 | step h0 _ ih =>
  cases g with
  | refl=>omega
  | step _ g1=>exact ih g1
theorem U1 (t:Txt) (s:StV):(Z4 t s).wrote=s.wrote:=by unfold Z4;split<;>rfl
theorem CY (p:Txt) (k:CoV) (c:CfV):(c9 p k c).st.wrote=c.st.wrote:=by
 unfold c9
 split
 ·rfl
 split<;>rfl
theorem zrh (k:CoV) (x:KnV) (c:CfV):(coS k x c).st.wrote=c.st.wrote:=by
 cases k with
 | tr =>
     simp only[coS];split
     ·exact U1 _ _
     ·rfl
 | there t =>
  simp only[coS]
  split
  ·cases t with
   | add=>exact U1 _ _
   | scan w=>rfl
  ·rfl
theorem zok (env:List (Txt × Txt)) (kn:List KnV) (c:CfV):c.st.wrote <+: (KU env kn c).st.wrote:=by
 have eq:∀ {d:CfV},d.st.wrote=c.st.wrote->c.st.wrote <+: d.st.wrote:=fun h=>by simp_all
 unfold KU
 split
 ·exact eq rfl
 ·rename_i x l _
  unfold PN
  simp only
  split
  ·simp[CY]
  split
  ·simp[CY]
  split
  ·exact eq (CY _ _ _)
  split
  ·exact eq (U1 _ _)
  split
  ·split
   ·exact eq (U1 _ _)
   ·exact eq rfl
  split
  ·exact List.prefix_append _ _
  split
  ·split<;>exact eq rfl
  split
  ·exact eq rfl
  ·exact eq (U1 _ _)
 ·unfold zb9
  split
  ·split
   ·exact eq (U1 _ _)
   split
   ·exact eq rfl
   ·exact eq (CY _ _ _)
  ·exact eq (U1 _ _)
 ·split
  ·simp[zrh]
  ·exact eq rfl
theorem ZF.wrote {env:List (Txt × Txt)} {kn:List KnV} {a b:CfV} (h:ZF env kn a b):a.st.wrote <+: b.st.wrote:=by
 induction h with
 | refl=>simp
 | step _ _ ih=>grind [zok]
structure zlz (env:List (Txt × Txt)) (cs:List CmdV) (lines:List Txt):Prop where
 i:∃i,QE i lines=.ok cs
theorem zlz.stand {env:List (Txt × Txt)} {cs:List CmdV} {lines:List Txt} (h:zlz env cs lines) {kn:List KnV} {wr:List DoV} {r:qN} {d:DoV} (hs:KY env (zeK cs) kn wr r d):(US env kn lines st0).stop=d/\(US env kn lines st0).wrote=wr:=by
 obtain⟨i,hi⟩:=h.i
 exact hs.far hi
theorem zlz.at_ {env:List (Txt × Txt)} {cs:List CmdV} {lines:List Txt} (h:zlz env cs lines) {kn:List KnV} {wr:List DoV} {r:qN} (hs:AtR env (zeK cs) kn wr r):wr <+: (US env kn lines st0).wrote:=by
 obtain⟨i,hi⟩:=h.i
 obtain⟨c',g1,g2,g3⟩:=za8 (env:=env) (kn:=kn) lines i cs st0 [] hi ⟨rfl,by simp[st0]⟩
 have h1:=hs.runs kn (List.prefix_refl _)
 have h2:=(h1.to g1 g3).wrote
 rw[g2]at h2
 refine List.IsPrefix.trans ?_ h2
 show wr <+: (if r.over.kind=2 then wr++[r.over] else wr)
 grind
inductive zhE (outs:List Txt) (may:Txt->Bool) (f:StV) (b:j9):Prop
 | waits:f.stop.kind=1->may f.stop.path=true->b.asks=f.stop.path->b.over=false->b.why=0->b.wrote=f.wrote.map pdW->zhE outs may f b
 | read:f.stop.kind=1->may f.stop.path=false->b.over=true->b.why=13->b.wrote=f.wrote.map pdW->zhE outs may f b
 | ended:f.stop.kind=3->(∀p∈outs,p∈f.wrote.map (·.path))->b.over=true->b.why=0->b.wrote=f.wrote.map pdW->zhE outs may f b
 | short:f.stop.kind=3->¬(∀p∈outs,p∈f.wrote.map (·.path))->b.over=true->b.why=14->b.wrote=f.wrote.map pdW->zhE outs may f b
 | failed:f.stop.kind=4->f.stop.why≠0->b.over=true->b.why=f.stop.why->b.wrote=f.wrote.map pdW->zhE outs may f b
 | wrote (wr:List DoV) (d:DoV):wr++[d] <+: f.wrote->(d.path∈wr.map (·.path)\/d.path∉outs)->b.over=true->b.why=14->zhE outs may f b
def zhR (outs:List Txt) (l:List DoV):Prop:=(l.map (·.path)).Nodup/\∀w∈l,w.path∈outs
theorem uQ.far {env:List (Txt × Txt)} {cs:List CmdV} {lines:List Txt} (hl:zlz env cs lines) {kn:List KnV} {outs:List Txt} {may:Txt->Bool} {wr:List DoV} {b:j9} (h:uQ env (zeK cs) kn outs may wr b) :
  zhE outs may (US env kn lines st0) b/\((zhR outs (US env kn lines st0).wrote/\b.wrote=(US env kn lines st0).wrote.map pdW)\/(b.over=true/\b.why=14/\¬zhR outs (US env kn lines st0).wrote)):=by
 have hright:zhR outs wr:=⟨h.nod,h.own⟩
 cases h.e with
 | waits d hs h1 hm hw ha ha2 h3 h4 =>
  obtain⟨rfl,rfl⟩:=hl.stand hs
  exact⟨.waits h1 hm ha h3 h4 h.wrote,.inl ⟨hright,h.wrote⟩⟩
 | read d hs h1 hm h3 h4 =>
  obtain⟨rfl,rfl⟩:=hl.stand hs
  exact⟨.read h1 hm h3 h4 h.wrote,.inl ⟨hright,h.wrote⟩⟩
 | ended d hs h1 hm h3 h4 =>
  obtain⟨rfl,rfl⟩:=hl.stand hs
  exact⟨.ended h1 hm h3 h4 h.wrote,.inl ⟨hright,h.wrote⟩⟩
 | short d hs h1 hm h3 h4 =>
  obtain⟨rfl,rfl⟩:=hl.stand hs
  exact⟨.short h1 hm h3 h4 h.wrote,.inl ⟨hright,h.wrote⟩⟩
 | failed d hs h1 hm h3 h4 =>
  obtain⟨rfl,rfl⟩:=hl.stand hs
  exact⟨.failed h1 hm h3 h4 h.wrote,.inl ⟨hright,h.wrote⟩⟩
 | wrote d hs hb h3 h4 =>
  have hp:=hl.at_ hs
  refine⟨.wrote wr d hp hb h3 h4,.inr ⟨h3,h4,fun hr=>?_⟩⟩
  have h5:(wr++[d]).Sublist (US env kn lines st0).wrote:=hp.sublist
  rcases hb with hb|hb
  ·have h6:((wr++[d]).map (·.path)).Nodup:=(h5.map _).nodup hr.1
   grind
  ·exact hb (hr.2 d (h5.subset (by simp)))
end
section
variable [Sel]
def U9 (f:List UInt8->Bool):List UInt8->Bool
 | []=>f []
 | c::cs=>f (c::cs)||U9 f cs
def JB:List UInt8->List UInt8->Bool
 | [],s=>s.isEmpty
 | p::ps,s=>if p=42 then U9 (JB ps) s else match s with
  | []=>false
  | c::cs=>(decide (p=63)||decide (p=c))&&JB ps cs
theorem DN (r s:List UInt8):JB (42::r) s=U9 (JB r) s:=by
 rfl
def G7:List UInt8->List UInt8->Bool
 | [],[]=>true
 | p::ps,c::cs=>decide (p≠42)&&(decide (p=63)||decide (p=c))&&G7 ps cs
 | _,_=>false
theorem VH (f:List UInt8->Bool):∀s:List UInt8,U9 f s=true<->∃n,n<=s.length/\f (s.drop n)=true
 | []=>by
  simp[U9]
 | c::cs=>by
  have ih:=VH f cs
  simp only[U9,Bool.or_eq_true,ih]
  constructor
  ·rintro(h|⟨n,h1,h2⟩)
   ·exact⟨0,by simp,h⟩
   ·exact⟨n+1,by simp;omega,by simp_all⟩
  ·rintro⟨n,h1,h2⟩
   cases n with
   | zero=>exact .inl h2
   | succ n=>grind
theorem zhY {f:List UInt8->Bool} {s:List UInt8} {k:Nat} (hk:k<=s.length) (h:U9 f (s.drop k)=true):U9 f s=true:=by
 grind [VH,List.drop_drop]
theorem ziP:∀ {seg u:List UInt8} (r v:List UInt8),G7 seg u=true->JB (seg++r) (u++v)=JB r v
 | [],[],r,v,_=>rfl
 | p::ps,c::cs,r,v,h=>by
  simp_all[G7,ziP,JB]
theorem ziU:∀ {seg u:List UInt8},G7 seg u=true->seg.length=u.length
 | [],[],_=>rfl
 | p::ps,c::cs,h=>by
  simp only[G7,Bool.and_eq_true]at h
  simp[ziU h.2]
theorem zm1:∀ {seg u:List UInt8},G7 seg u=true->∀p∈seg,p≠42
 | [],[],_=>by simp
 | p::ps,c::cs,h=>by
  simp only[G7,Bool.and_eq_true,decide_eq_true_eq]at h
  intro x hx
  rcases List.mem_cons.1 hx with rfl|hx
  ·exact h.1.1
  ·exact zm1 h.2 x hx
theorem zeU:∀ {seg u:List UInt8} {p c:UInt8},G7 seg u=true->p≠42->(p=63\/p=c)->G7 (seg++[p]) (u++[c])=true
 | [],[],p,c,_,h1,h2=>by simp_all[G7]
 | q::ps,d::cs,p,c,h,h1,h2=>by
  simp_all[G7,zeU]
theorem zjg:∀ {seg:List UInt8} {r s:List UInt8},(∀p∈seg,p≠42)->JB (seg++r) s=true->seg.length<=s.length/\JB r (s.drop seg.length)=true
 | [],r,s,_,h=>⟨by simp,by simpa using h⟩
 | p::ps,r,s,hn,h=>by
  simp only[List.cons_append,JB]at h
  rw[if_neg (hn p (by simp))]at h
  cases s with
  | nil=>cases h
  | cons c cs =>
   simp only[Bool.and_eq_true]at h
   have:=zjg (fun x hx=>hn x (by simp[hx])) h.2
   simp_all
theorem zjE:∀r:List UInt8,JB r []=r.all fun c=>decide (c=42)
 | []=>rfl
 | p::ps=>by
  have ih:=zjE ps
  simp only[JB,U9,List.all_cons]
  by_cases h:p=42
  ·simp[h,ih]
  ·simp[h]
inductive gF (p s:List UInt8) (i k:Nat):Option (Nat × Nat)->Prop
 | free:JB p s=JB (p.drop i) (s.drop k)->gF p s i k none
 | star (st a:Nat):p[st]?=some 42->st+1<=i->a<=k->G7 ((p.drop (st+1)).take (i-(st+1))) ((s.drop a).take (k-a))=true->JB p s=JB (p.drop st) (s.drop a)->gF p s i k (some (st,a))
theorem Z2 {p:List UInt8} {i:Nat} {c:UInt8} (h:p[i]?=some c):p.drop i=c::p.drop (i+1):=by
 obtain⟨h1,rfl⟩:=List.getElem?_eq_some_iff.1 h
 simp
theorem ziN (q:List UInt8) (a b:Nat) (h:a<=b):q.drop a=(q.drop a).take (b-a)++q.drop b:=by
 grind [List.take_append_drop,List.drop_drop]
theorem zel {p s:List UInt8} {i k st a:Nat} (h1:p[st]?=some 42) (h2:st+1<=i) (h3:a<=k) (hk:k<=s.length) (hl:G7 ((p.drop (st+1)).take (i-(st+1))) ((s.drop a).take (k-a))=true) :
  JB (p.drop st) (s.drop a)=U9 (JB (p.drop (st+1))) (s.drop a)/\JB (p.drop (st+1)) (s.drop a)=JB (p.drop i) (s.drop k)/\
  ∀n,n<=(s.drop a).length->JB (p.drop (st+1)) ((s.drop a).drop n)=true->k+n<=s.length/\JB (p.drop i) (s.drop (k+n))=true:=by
 have e1:=ziN p (st+1) i h2
 have e2:=ziN s a k h3
 refine⟨?_,?_,fun n hn h=>?_⟩
 ·rw[Z2 h1,DN]
 ·grind [ziP]
 ·rw[e1]at h
  obtain⟨g1,g2⟩:=zjg (zm1 hl) h
  have hll:=ziU hl
  have e4:((s.drop a).take (k-a)).length=k-a:=by grind
  rw[hll,e4]at g1 g2
  rw[List.drop_drop,List.drop_drop]at g2
  rw[List.length_drop,List.length_drop]at g1
  rw[show a+(n+(k-a))=k+n by omega]at g2
  grind
theorem gF.toStar {p s:List UInt8} {i k:Nat} {o:Option (Nat × Nat)} (h:gF p s i k o) (hk:k<=s.length) (hc:p[i]?=some 42):gF p s (i+1) k (some (i,k)):=by
 refine .star i k hc (Nat.le_refl _) (Nat.le_refl _) (by simp[G7]) ?_
 cases h with
 | free h=>exact h
 | star st a h1 h2 h3 hl he =>
  obtain⟨g1,g2,g3⟩:=zel h1 h2 h3 hk hl
  rw[he,g1]
  apply Bool.eq_iff_iff.2
  rw[VH]
  constructor
  ·rintro⟨n,hn,h⟩
   obtain⟨q1,q2⟩:=g3 n hn h
   rw[Z2 hc,DN]at q2 |-
   have q3:U9 (JB (p.drop (i+1))) ((s.drop k).drop n)=true:=by simp_all
   grind [zhY,List.length_drop]
  ·intro h
   exact⟨0,by simp,by simp_all⟩
theorem gF.lit {p s:List UInt8} {i k:Nat} {o:Option (Nat × Nat)} {c d:UInt8} (h:gF p s i k o) (hc:p[i]?=some c) (hd:s[k]?=some d) (h42:c≠42) (hm:c=63\/c=d):gF p s (i+1) (k+1) o:=by
 cases h with
 | free h =>
  refine .free ?_
  rw[h,Z2 hc,Z2 hd,JB,if_neg h42]
  simp_all
 | star st a h1 h2 h3 hl he =>
  refine .star st a h1 (by omega) (by omega) ?_ he
  have hi:=(List.getElem?_eq_some_iff.1 hc).1
  have hk:=(List.getElem?_eq_some_iff.1 hd).1
  have e1:(p.drop (st+1)).take (i+1-(st+1))=(p.drop (st+1)).take (i-(st+1))++[c]:=by
   rw[show i+1-(st+1)=(i-(st+1))+1 by omega,List.take_succ_eq_append_getElem (by grind)]
   simp_all
  have e2:(s.drop a).take (k+1-a)=(s.drop a).take (k-a)++[d]:=by
   rw[show k+1-a=(k-a)+1 by omega,List.take_succ_eq_append_getElem (by grind)]
   simp_all
  simp_all[zeU]
def zkh (p s:List UInt8) (i k:Nat):Prop:=∃d,s[k]?=some d/\(p.length<=i\/∃c,p[i]?=some c/\c≠42/\c≠63/\c≠d)
theorem zfI {p s:List UInt8} {i k:Nat} (h:zkh p s i k):JB (p.drop i) (s.drop k)=false:=by
 obtain⟨d,hd,h|⟨c,hc,h1,h2,h3⟩⟩:=h
 ·rw[List.drop_of_length_le h,Z2 hd];rfl
 simp_all[Z2,JB]
theorem gF.back {p s:List UInt8} {i k st a:Nat} (h:gF p s i k (some (st,a))) (hn:zkh p s i k):gF p s (st+1) (a+1) (some (st,a+1)):=by
 obtain⟨d,hd,_⟩:=id hn
 have hk:=(List.getElem?_eq_some_iff.1 hd).1
 have hno:=zfI hn
 cases h with
 | star _ _ h1 h2 h3 hl he =>
  obtain⟨g1,g2,g3⟩:=zel h1 h2 h3 (by omega) hl
  refine .star st (a+1) h1 (Nat.le_refl _) (Nat.le_refl _) (by simp[G7]) ?_
  rw[he,g1,Z2 h1,DN]
  have ha:s[a]?=some (s[a]'(by omega)):=List.getElem?_eq_getElem _
  rw[<-g2,Z2 ha]at hno
  rw[Z2 ha,U9,hno,Bool.false_or]
theorem gF.no {p s:List UInt8} {i k:Nat} (h:gF p s i k none) (hn:zkh p s i k):JB p s=false:=by
 cases h with
 | free h=>simp_all[zfI]
theorem gF.fin {p s:List UInt8} {i:Nat} {o:Option (Nat × Nat)} (h:gF p s i s.length o):JB p s=(p.drop i).all fun c=>decide (c=42):=by
 rw[<-zjE]
 cases h with
 | free h=>simp_all
 | star st a h1 h2 h3 hl he =>
  obtain⟨g1,g2,g3⟩:=zel h1 h2 h3 (Nat.le_refl _) hl
  rw[List.drop_length]at g2
  rw[he,g1]
  apply Bool.eq_iff_iff.2
  rw[VH]
  constructor
  ·grind
  ·intro h
   exact⟨0,by simp,by simp_all⟩
def Y3 (c:UInt8):Nat->List UInt8->List UInt8
 | 0,l=>l
 | n+1,l=>if l.getLast?=some c then Y3 c n l.dropLast else l
def xJ (c:UInt8):List UInt8->List UInt8
 | []=>[]
 | x::r=>if x=c then xJ c r else x::r
def zfz (c:UInt8) (l:List UInt8):List UInt8:=xJ c (Y3 c l.length l)
theorem zdt {c:UInt8}:∀ {l:List UInt8},xJ c l=[]<->(l.all fun x=>decide (x=c))=true
 | []=>by simp[xJ]
 | x::r=>by
  have ih:=zdt (c:=c) (l:=r)
  unfold xJ
  grind
theorem zd0 {c:UInt8}:∀ {n:Nat} {l:List UInt8},l.length<=n->((Y3 c n l).all (fun x=>decide (x=c))=true<->(l.all fun x=>decide (x=c))=true)
 | 0,l,h=>by rfl
 | n+1,l,h=>by
  unfold Y3
  split
  ·rename_i hl
   rcases List.eq_nil_or_concat l with rfl|⟨m,x,rfl⟩
   ·cases hl
   ·rw[List.concat_eq_append]at hl h |-
    simp_all[zd0]
  ·rfl
theorem zkv {c:UInt8} {l:List UInt8}:decide (zfz c l=[])=l.all fun x=>decide (x=c):=by
 apply Bool.eq_iff_iff.2
 rw[decide_eq_true_iff,zfz,zdt,zd0 (Nat.le_refl _)]
theorem zdF {c:UInt8}:∀ {n:Nat} {l:List UInt8},(Y3 c n l).length<=l.length
 | 0,l=>Nat.le_refl _
 | n+1,l=>by
  unfold Y3
  split
  ·have:=zdF (c:=c) (n:=n) (l:=l.dropLast);simp at this;omega
  omega
theorem zeM (l:List UInt8) (c:UInt8) (hl:l.length<=1000000000):PC Tryz.prog 194 [.av .str (.s l),.av (.int .u8) (.i .u8 c.toNat)] (.av .str (.s (Y3 c l.length l))):=by
 refine zow Tryz.func194 cf0 fun imm0 w0=>?_
 simp (disch:=omega) [zz]
 refine AT.loop' (α:=List UInt8) (fun x=>St.of [(0,.av .str (.s x)),(1,.av (.int .u8) (.i .u8 c.toNat))] [] (fun _=>0) []) (fun x=>x.length<=1000000000/\Y3 c x.length x=Y3 c l.length l) (fun x=>x.length) l ?_ ?_ ?_
 ·apply Le.of<;>simp[le9,qJ]<;>try omega
 ·exact⟨hl,rfl⟩
 rintro x ⟨hx,hxe⟩ KL hN hE
 refine zrd cf0 ?_
 rcases List.eq_nil_or_concat x with rfl|⟨m,d,rfl⟩
 ·simp (disch:=omega) [zz]
  refine hE _ _ (by simp) ?_
  have:Y3 c l.length l=[]:=by rw[<-hxe];rfl
  simp (disch:=omega) [zz,Tryz.f194,this]
 ·rw[List.concat_eq_append]at hx hxe |-
  simp only[List.length_append,List.length_singleton]at hx hxe
  have hl1:((m++[d]).length:Int)=m.length+1:=by simp
  have h1:(0:Int)<(m.length:Int)+1:=by omega
  have hg:(m++[d])[m.length]?=some d:=by simp
  have hm:(m++[d]).take m.length=m:=by simp
  by_cases hd:d=c
  ·subst hd
   have hst:Y3 d (m.length+1) (m++[d])=Y3 d m.length m:=by
    rw[Y3,if_pos (by simp),List.dropLast_concat]
   simp (disch:=omega) [zz,h1,hg,hm]
   try (repeat with_reducible refine om ?_)
   refine hN _ m ?_ ⟨by omega,by rw[<-hxe,hst]⟩ (by simp)
   apply Le.of<;>simp[le9,qJ]<;>try omega
  ·have hd':¬(d.toNat:Int)=c.toNat:=fun e=>hd (UInt8.toNat_inj.1 (by omega))
   have hst:Y3 c (m.length+1) (m++[d])=m++[d]:=by
    rw[Y3,if_neg (by simp[hd])]
   simp (disch:=omega) [zz,h1,hg,hm,hd']
   try (repeat with_reducible refine om ?_)
   refine hE _ _ (by simp) ?_
   simp (disch:=omega) [zz,Tryz.f194,<-hxe,hst]
theorem zh0 (l:List UInt8) (c:UInt8) (hl:l.length<=1000000000):PC Tryz.prog 193 [.av .str (.s l),.av (.int .u8) (.i .u8 c.toNat)] (.av .str (.s (xJ c l))):=by
 refine zow Tryz.func193 cf0 fun imm0 w0=>?_
 simp (disch:=omega) [zz]
 refine AT.loop' (α:=List UInt8) (fun x=>St.of [(0,.av .str (.s x)),(1,.av (.int .u8) (.i .u8 c.toNat))] [] (fun _=>0) []) (fun x=>x.length<=1000000000/\xJ c x=xJ c l) (fun x=>x.length) l ?_ ?_ ?_
 ·apply Le.of<;>simp[le9,qJ]<;>try omega
 ·exact⟨hl,rfl⟩
 rintro x ⟨hx,hxe⟩ KL hN hE
 refine zrd cf0 ?_
 cases x with
 | nil =>
  simp (disch:=omega) [zz]
  refine hE _ _ (by simp) ?_
  have:xJ c l=[]:=by rw[<-hxe];rfl
  simp (disch:=omega) [zz,Tryz.f193,this]
 | cons d m =>
  simp only[List.length_cons]at hx
  have h1:(0:Int)<(m.length:Int)+1:=by omega
  by_cases hd:d=c
  ·subst hd
   have hst:xJ d (d::m)=xJ d m:=by rw[xJ,if_pos rfl]
   simp (disch:=omega) [zz,h1]
   try (repeat with_reducible refine om ?_)
   refine hN _ m ?_ ⟨by omega,by rw[<-hxe,hst]⟩ (by simp)
   apply Le.of<;>simp[le9,qJ]<;>try omega
  ·have hd':¬(d.toNat:Int)=c.toNat:=fun e=>hd (UInt8.toNat_inj.1 (by omega))
   have hst:xJ c (d::m)=d::m:=by rw[xJ,if_neg hd]
   simp (disch:=omega) [zz,h1,hd']
   try (repeat with_reducible refine om ?_)
   refine hE _ _ (by simp) ?_
   simp (disch:=omega) [zz,Tryz.f193,<-hxe,hst]
theorem zpS (l:List UInt8) (hl:l.length<=1000000000):PC Tryz.prog 175 [.av .str (.s l),.av .str (.s [42])] (.av .str (.s (zfz 42 l))):=by
 refine zow Tryz.func175 cf0 fun imm0 w0=>?_
 by_cases h0:l=[]
 ·subst h0
  have:zfz 42 []=[]:=rfl
  simp (disch:=omega) [zz,Tryz.f175,this]
 ·have hr:=zdF (c:=42) (n:=l.length) (l:=l)
  simp (disch:=omega) [zz,h0]
  refine zcd (zeM l 42 hl) ?_;(simp (disch:=first|omega|assumption) [zz])
  refine zcd (zh0 (Y3 42 l.length l) 42 (by omega)) ?_;(simp (disch:=first|omega|assumption) [zz,Tryz.f175,zfz])
def stV:Option (Nat × Nat)->Int × Int
 | none=>(-1,0)
 | some (st,a)=>(st,a)
def stM (n m:Nat):Option (Nat × Nat)->Nat
 | none=>n*(n+m+1)
 | some (_,a)=>(n-a)*(n+m+1)
theorem zrk (p s:List UInt8) (hp:p.length<=1000000000) (hs:s.length<=1000000000):PC Tryz.prog 151 [.av .str (.s p),.av .str (.s s)] (.av .bool (.b (JB p s))):=by
 refine zow Tryz.func151 cf0 fun imm0 w0=>?_
 simp (disch:=omega) [zz]
 refine AT.loop' (α:=Nat × Nat × Option (Nat × Nat)) (fun x=>St.of [(0,.av .str (.s p)),(1,.av .str (.s s)),(5,.av (.int .i64) (.i .i64 x.1)),(6,.av (.int .i64) (.i .i64 x.2.1)),(7,.av (.int .i64) (.i .i64 (stV x.2.2).1)),(8,.av (.int .i64) (.i .i64 (stV x.2.2).2))] [] (fun _=>0) [])
  (fun x=>x.1<=p.length/\x.2.1<=s.length/\gF p s x.1 x.2.1 x.2.2) (fun x=>stM s.length p.length x.2.2+(s.length-x.2.1)+(p.length-x.1)) (0,0,none) ?_ ?_ ?_
 ·apply Le.of<;>simp[le9,stV]<;>try omega
 ·exact⟨by simp,by simp,.free (by simp)⟩
 rintro⟨i,k,o⟩ ⟨hi,hk,hO⟩ KL hN hE
 simp only at hi hk hO hN
 refine zrd cf0 ?_
 by_cases hks:k<s.length
 rotate_left
 ·have hks':¬(k:Int)<s.length:=by omega
  have hke:k=s.length:=by omega
  subst hke
  have hfin:=hO.fin
  rw[<-zkv]at hfin
  have hdl:(p.drop i).length<=1000000000:=by rw[List.length_drop];omega
  simp (disch:=omega) [zz,hks']
  refine hE _ _ (by simp) ?_
  simp (disch:=omega) [zz]
  (repeat with_reducible refine om ?_)
  refine qG (zpS (p.drop i) hdl) rfl rfl (by simp) (by simp[qM,coC,TV.er,AV.er]) ?_
  simp (disch:=omega) [zz,Tryz.f151,hfin]
 have hks':(k:Int)<s.length:=by omega
 have hd:s[k]?=some s[k]:=List.getElem?_eq_getElem hks
 obtain⟨d,hdd⟩:∃d,d=s[k]:=⟨_,rfl⟩
 have hsd:s[k]=d:=hdd.symm
 rw[<-hdd]at hd
  -- what happens where it doesn't go on
 have hno:∀(Q:zkh p s i k),True:=fun _=>trivial
 by_cases hip:i<p.length
 rotate_left
 ·have hip':¬(i:Int)<p.length:=by omega
  have hng:zkh p s i k:=⟨d,hd,.inl (by omega)⟩
  cases o with
  | none =>
   have hf:=hO.no hng
   simp (disch:=omega) [zz,hks',hip',stV]
   refine hE _ _ (by simp) ?_
   simp (disch:=omega) [zz,Tryz.f151,hf]
  | some sa =>
   obtain⟨st,a⟩:=sa
   have hb:=hO.back hng
   have ha:a<=k:=by cases hO;assumption
   have hst:st<p.length:=by cases hO with|star _ _ h1=>exact(List.getElem?_eq_some_iff.1 h1).1
   have h0:(0:Int)<=st:=by omega
   simp (disch:=omega) [zz,hks',hip',stV,h0]
   refine hN _ (st+1,a+1,some (st,a+1)) ?_ ⟨by simp only;omega,by simp only;omega,hb⟩ ?_
   ·apply Le.of<;>simp[le9,stV]<;>try omega
   ·simp only[stM]
    have e:s.length-a=(s.length-(a+1))+1:=by omega
    rw[e,Nat.succ_mul]
    omega
 have hip':(i:Int)<p.length:=by omega
 have hc:p[i]?=some p[i]:=List.getElem?_eq_getElem hip
 obtain⟨c,hcc⟩:∃c,c=p[i]:=⟨_,rfl⟩
 have hpc:p[i]=c:=hcc.symm
 rw[<-hcc]at hc
 by_cases h42:c=42
 ·subst h42
  have hn:=hO.toStar hk hc
  simp (disch:=omega) [zz,hks',hip',hpc]
  (repeat with_reducible refine om ?_)
  refine hN _ (i+1,k,some (i,k)) ?_ ⟨by omega,hk,hn⟩ ?_
  ·apply Le.of<;>simp[le9,stV]<;>try omega
  ·have:stM s.length p.length (some (i,k))<=stM s.length p.length o:=by
    cases o with
    | none=>simp only[stM];exact Nat.mul_le_mul_right _ (by omega)
    | some sa =>
     obtain⟨st,a⟩:=sa
     have ha:a<=k:=by cases hO;assumption
     simp only[stM];exact Nat.mul_le_mul_right _ (by omega)
   simp only
   omega
 have h42':¬(c.toNat:Int)=42:=by have:=vI (n:=42) (by omega) h42;simpa using this
 by_cases hm:c=63\/c=d
 ·have hn:=hO.lit hc hd h42 hm
  have go:KL .normal=KL .normal:=rfl
  rcases Classical.em (c=63)with h63|h63
  ·subst h63
   simp (disch:=omega) [zz,hks',hip',hpc]
   (repeat with_reducible refine om ?_)
   refine hN _ (i+1,k+1,o) ?_ ⟨by simp only;omega,by simp only;omega,hn⟩ (by simp only;omega)
   apply Le.of<;>simp[le9,stV]<;>try omega
  ·have hcd:c=d:=hm.resolve_left h63
   subst hcd
   have h63':¬(c.toNat:Int)=63:=by have:=vI (n:=63) (by omega) h63;simpa using this
   simp (disch:=omega) [zz,hks',hip',hpc,hsd,h42',h63']
   (repeat with_reducible refine om ?_)
   refine hN _ (i+1,k+1,o) ?_ ⟨by simp only;omega,by simp only;omega,hn⟩ (by simp only;omega)
   apply Le.of<;>simp[le9,stV]<;>try omega
 ·have h63:¬c=63:=fun e=>hm (.inl e)
  have hcd:¬c=d:=fun e=>hm (.inr e)
  have h63':¬(c.toNat:Int)=63:=by have:=vI (n:=63) (by omega) h63;simpa using this
  have hcd':¬(c.toNat:Int)=d.toNat:=fun e=>hcd (UInt8.toNat_inj.1 (by omega))
  have hng:zkh p s i k:=⟨d,hd,.inr ⟨c,hc,h42,h63,hcd⟩⟩
  cases o with
  | none =>
   have hf:=hO.no hng
   simp (disch:=omega) [zz,hks',hip',hpc,hsd,h42',h63',hcd',stV]
   (repeat with_reducible refine om ?_)
   refine hE _ _ (by simp) ?_
   simp (disch:=omega) [zz,Tryz.f151,hf]
  | some sa =>
   obtain⟨st,a⟩:=sa
   have hb:=hO.back hng
   have ha:a<=k:=by cases hO;assumption
   have hst:st<p.length:=by cases hO with|star _ _ h1=>exact(List.getElem?_eq_some_iff.1 h1).1
   have h0:(0:Int)<=st:=by omega
   simp (disch:=omega) [zz,hks',hip',hpc,hsd,h42',h63',hcd',stV,h0]
   (repeat with_reducible refine om ?_)
   refine hN _ (st+1,a+1,some (st,a+1)) ?_ ⟨by simp only;omega,by simp only;omega,hb⟩ ?_
   ·apply Le.of<;>simp[le9,stV]<;>try omega
   ·simp only[stM]
    have e:s.length-a=(s.length-(a+1))+1:=by omega
    rw[e,Nat.succ_mul]
    omega
theorem zgg (l:List UInt8) (hl:l.length<=9223372036854775807):PC Tryz.prog 38 [.av .str (.s l)] (.av .bool (.b (QM l))):=by
 refine zow Tryz.func38 cf0 fun imm0 w0=>?_
 by_cases h1:l=[]
 ·simp (disch:=omega) [zz,h1,Tryz.f38,QM]
 by_cases h2:l=[46]
 ·simp (disch:=omega) [zz,h2,Tryz.f38,QM]
 by_cases h3:l=[46,46]
 ·simp (disch:=omega) [zz,h3,Tryz.f38,QM]
 by_cases h4:l.length<=64
 ·have h4':¬(64:Int)<l.length:=by omega
  simp (disch:=omega) [zz,h1,h2,h3,h4']
  have hpv:QM l=l.all fun b=>jS b.toNat:=by simp[QM,h1,h2,h3,h4]
  refine AT.loop' (α:=Nat) (fun k=>St.of [(0,.av .str (.s l)),(3,.av (.int .i64) (.i .i64 k))] [] (fun _=>0) []) (fun k=>k<=l.length/\((l.take k).all fun b=>jS b.toNat)=true) (fun k=>l.length-k) 0 ?_ ?_ ?_
  ·apply Le.of<;>simp[le9,qJ]<;>try omega
  ·simp
  rintro k ⟨hk,hall⟩ KL hN hE
  refine zrd cf0 ?_
  by_cases hlt:k<l.length
  ·have hlt':(k:Int)<l.length:=by omega
   obtain⟨n,hn⟩:∃n:Nat,l[k].toNat=n:=⟨_,rfl⟩
   have hn255:n<=255:=by have:=l[k].toNat_lt;omega
   have hbad:jS l[k].toNat=false->QM l=false:=by
    intro h
    rw[hpv,List.all_eq_false]
    exact⟨l[k],List.getElem_mem _,by simp[h]⟩
   rcases(by omega:(0<=n/\n<=42)\/n=43\/n=44\/n=45\/n=46\/n=47\/(48<=n/\n<=57)\/(58<=n/\n<=64)\/(65<=n/\n<=90)\/(91<=n/\n<=94)\/n=95\/n=96\/(97<=n/\n<=122)\/(123<=n/\n<=255))with hc|hc|hc|hc|hc|hc|hc|hc|hc|hc|hc|hc|hc|hc
   ·have g97:¬((97:Int)<=n):=by omega
    have g65:¬((65:Int)<=n):=by omega
    have g48:¬((48:Int)<=n):=by omega
    have l122:((n:Int)<=122):=by omega
    have l90:((n:Int)<=90):=by omega
    have l57:((n:Int)<=57):=by omega
    have e95:¬((n:Int)=95):=by omega
    have e46:¬((n:Int)=46):=by omega
    have e45:¬((n:Int)=45):=by omega
    have e43:¬((n:Int)=43):=by omega
    have hs:jS n=false:=by unfold jS;simp;omega
    simp (disch:=omega) [zz,hlt',hn,g97,g65,g48,l122,l90,l57,e95,e46,e45,e43,hs]
    (repeat with_reducible refine om ?_)
    refine hE _ _ (by simp) ?_
    simp (disch:=omega) [zz,Tryz.f38]
    exact hbad (by rw[hn];exact hs)
   ·subst hc
    have hs:jS 43=true:=by decide
    simp (disch:=omega) [zz,hlt',hn,hs]
    (repeat with_reducible refine om ?_)
    refine hN _ (k+1) ?_ ⟨by omega,by rw[List.take_succ_eq_append_getElem hlt,List.all_append,hall];simp[hn,hs]⟩ (by omega)
    apply Le.of<;>simp[le9,qJ]<;>try omega
   ·have g97:¬((97:Int)<=n):=by omega
    have g65:¬((65:Int)<=n):=by omega
    have g48:¬((48:Int)<=n):=by omega
    have l122:((n:Int)<=122):=by omega
    have l90:((n:Int)<=90):=by omega
    have l57:((n:Int)<=57):=by omega
    have e95:¬((n:Int)=95):=by omega
    have e46:¬((n:Int)=46):=by omega
    have e45:¬((n:Int)=45):=by omega
    have e43:¬((n:Int)=43):=by omega
    have hs:jS n=false:=by unfold jS;simp;omega
    simp (disch:=omega) [zz,hlt',hn,g97,g65,g48,l122,l90,l57,e95,e46,e45,e43,hs]
    (repeat with_reducible refine om ?_)
    refine hE _ _ (by simp) ?_
    simp (disch:=omega) [zz,Tryz.f38]
    exact hbad (by rw[hn];exact hs)
   ·subst hc
    have hs:jS 45=true:=by decide
    simp (disch:=omega) [zz,hlt',hn,hs]
    (repeat with_reducible refine om ?_)
    refine hN _ (k+1) ?_ ⟨by omega,by rw[List.take_succ_eq_append_getElem hlt,List.all_append,hall];simp[hn,hs]⟩ (by omega)
    apply Le.of<;>simp[le9,qJ]<;>try omega
   ·subst hc
    have hs:jS 46=true:=by decide
    simp (disch:=omega) [zz,hlt',hn,hs]
    (repeat with_reducible refine om ?_)
    refine hN _ (k+1) ?_ ⟨by omega,by rw[List.take_succ_eq_append_getElem hlt,List.all_append,hall];simp[hn,hs]⟩ (by omega)
    apply Le.of<;>simp[le9,qJ]<;>try omega
   ·have g97:¬((97:Int)<=n):=by omega
    have g65:¬((65:Int)<=n):=by omega
    have g48:¬((48:Int)<=n):=by omega
    have l122:((n:Int)<=122):=by omega
    have l90:((n:Int)<=90):=by omega
    have l57:((n:Int)<=57):=by omega
    have e95:¬((n:Int)=95):=by omega
    have e46:¬((n:Int)=46):=by omega
    have e45:¬((n:Int)=45):=by omega
    have e43:¬((n:Int)=43):=by omega
    have hs:jS n=false:=by unfold jS;simp;omega
    simp (disch:=omega) [zz,hlt',hn,g97,g65,g48,l122,l90,l57,e95,e46,e45,e43,hs]
    (repeat with_reducible refine om ?_)
    refine hE _ _ (by simp) ?_
    simp (disch:=omega) [zz,Tryz.f38]
    exact hbad (by rw[hn];exact hs)
   ·have g97:¬((97:Int)<=n):=by omega
    have g65:¬((65:Int)<=n):=by omega
    have g48:((48:Int)<=n):=by omega
    have l122:((n:Int)<=122):=by omega
    have l90:((n:Int)<=90):=by omega
    have l57:((n:Int)<=57):=by omega
    have e95:¬((n:Int)=95):=by omega
    have e46:¬((n:Int)=46):=by omega
    have e45:¬((n:Int)=45):=by omega
    have e43:¬((n:Int)=43):=by omega
    have hs:jS n=true:=by unfold jS;simp;omega
    simp (disch:=omega) [zz,hlt',hn,g97,g65,g48,l122,l90,l57,e95,e46,e45,e43,hs]
    (repeat with_reducible refine om ?_)
    refine hN _ (k+1) ?_ ⟨by omega,by rw[List.take_succ_eq_append_getElem hlt,List.all_append,hall];simp[hn,hs]⟩ (by omega)
    apply Le.of<;>simp[le9,qJ]<;>try omega
   ·have g97:¬((97:Int)<=n):=by omega
    have g65:¬((65:Int)<=n):=by omega
    have g48:((48:Int)<=n):=by omega
    have l122:((n:Int)<=122):=by omega
    have l90:((n:Int)<=90):=by omega
    have l57:¬((n:Int)<=57):=by omega
    have e95:¬((n:Int)=95):=by omega
    have e46:¬((n:Int)=46):=by omega
    have e45:¬((n:Int)=45):=by omega
    have e43:¬((n:Int)=43):=by omega
    have hs:jS n=false:=by unfold jS;simp;omega
    simp (disch:=omega) [zz,hlt',hn,g97,g65,g48,l122,l90,l57,e95,e46,e45,e43,hs]
    (repeat with_reducible refine om ?_)
    refine hE _ _ (by simp) ?_
    simp (disch:=omega) [zz,Tryz.f38]
    exact hbad (by rw[hn];exact hs)
   ·have g97:¬((97:Int)<=n):=by omega
    have g65:((65:Int)<=n):=by omega
    have g48:((48:Int)<=n):=by omega
    have l122:((n:Int)<=122):=by omega
    have l90:((n:Int)<=90):=by omega
    have l57:¬((n:Int)<=57):=by omega
    have e95:¬((n:Int)=95):=by omega
    have e46:¬((n:Int)=46):=by omega
    have e45:¬((n:Int)=45):=by omega
    have e43:¬((n:Int)=43):=by omega
    have hs:jS n=true:=by unfold jS;simp;omega
    simp (disch:=omega) [zz,hlt',hn,g97,g65,g48,l122,l90,l57,e95,e46,e45,e43,hs]
    (repeat with_reducible refine om ?_)
    refine hN _ (k+1) ?_ ⟨by omega,by rw[List.take_succ_eq_append_getElem hlt,List.all_append,hall];simp[hn,hs]⟩ (by omega)
    apply Le.of<;>simp[le9,qJ]<;>try omega
   ·have g97:¬((97:Int)<=n):=by omega
    have g65:((65:Int)<=n):=by omega
    have g48:((48:Int)<=n):=by omega
    have l122:((n:Int)<=122):=by omega
    have l90:¬((n:Int)<=90):=by omega
    have l57:¬((n:Int)<=57):=by omega
    have e95:¬((n:Int)=95):=by omega
    have e46:¬((n:Int)=46):=by omega
    have e45:¬((n:Int)=45):=by omega
    have e43:¬((n:Int)=43):=by omega
    have hs:jS n=false:=by unfold jS;simp;omega
    simp (disch:=omega) [zz,hlt',hn,g97,g65,g48,l122,l90,l57,e95,e46,e45,e43,hs]
    (repeat with_reducible refine om ?_)
    refine hE _ _ (by simp) ?_
    simp (disch:=omega) [zz,Tryz.f38]
    exact hbad (by rw[hn];exact hs)
   ·subst hc
    have hs:jS 95=true:=by decide
    simp (disch:=omega) [zz,hlt',hn,hs]
    (repeat with_reducible refine om ?_)
    refine hN _ (k+1) ?_ ⟨by omega,by rw[List.take_succ_eq_append_getElem hlt,List.all_append,hall];simp[hn,hs]⟩ (by omega)
    apply Le.of<;>simp[le9,qJ]<;>try omega
   ·have g97:¬((97:Int)<=n):=by omega
    have g65:((65:Int)<=n):=by omega
    have g48:((48:Int)<=n):=by omega
    have l122:((n:Int)<=122):=by omega
    have l90:¬((n:Int)<=90):=by omega
    have l57:¬((n:Int)<=57):=by omega
    have e95:¬((n:Int)=95):=by omega
    have e46:¬((n:Int)=46):=by omega
    have e45:¬((n:Int)=45):=by omega
    have e43:¬((n:Int)=43):=by omega
    have hs:jS n=false:=by unfold jS;simp;omega
    simp (disch:=omega) [zz,hlt',hn,g97,g65,g48,l122,l90,l57,e95,e46,e45,e43,hs]
    (repeat with_reducible refine om ?_)
    refine hE _ _ (by simp) ?_
    simp (disch:=omega) [zz,Tryz.f38]
    exact hbad (by rw[hn];exact hs)
   ·have g97:((97:Int)<=n):=by omega
    have g65:((65:Int)<=n):=by omega
    have g48:((48:Int)<=n):=by omega
    have l122:((n:Int)<=122):=by omega
    have l90:¬((n:Int)<=90):=by omega
    have l57:¬((n:Int)<=57):=by omega
    have e95:¬((n:Int)=95):=by omega
    have e46:¬((n:Int)=46):=by omega
    have e45:¬((n:Int)=45):=by omega
    have e43:¬((n:Int)=43):=by omega
    have hs:jS n=true:=by unfold jS;simp;omega
    simp (disch:=omega) [zz,hlt',hn,g97,g65,g48,l122,l90,l57,e95,e46,e45,e43,hs]
    (repeat with_reducible refine om ?_)
    refine hN _ (k+1) ?_ ⟨by omega,by rw[List.take_succ_eq_append_getElem hlt,List.all_append,hall];simp[hn,hs]⟩ (by omega)
    apply Le.of<;>simp[le9,qJ]<;>try omega
   ·have g97:((97:Int)<=n):=by omega
    have g65:((65:Int)<=n):=by omega
    have g48:((48:Int)<=n):=by omega
    have l122:¬((n:Int)<=122):=by omega
    have l90:¬((n:Int)<=90):=by omega
    have l57:¬((n:Int)<=57):=by omega
    have e95:¬((n:Int)=95):=by omega
    have e46:¬((n:Int)=46):=by omega
    have e45:¬((n:Int)=45):=by omega
    have e43:¬((n:Int)=43):=by omega
    have hs:jS n=false:=by unfold jS;simp;omega
    simp (disch:=omega) [zz,hlt',hn,g97,g65,g48,l122,l90,l57,e95,e46,e45,e43,hs]
    (repeat with_reducible refine om ?_)
    refine hE _ _ (by simp) ?_
    simp (disch:=omega) [zz,Tryz.f38]
    exact hbad (by rw[hn];exact hs)
  ·have hlt':¬(k:Int)<l.length:=by omega
   simp (disch:=omega) [zz,hlt']
   refine hE _ _ (by simp) ?_
   rw[List.take_of_length_le (by omega)]at hall
   simp (disch:=omega) [zz,Tryz.f38,hpv,hall]
 ·have h4':(64:Int)<l.length:=by omega
  simp (disch:=omega) [zz,h1,h2,h3,h4',Tryz.f38,QM,h4]
def ZM:List (List UInt8)->List UInt8
 | []=>[]
 | [x]=>x
 | x::y::r=>x++47::ZM (y::r)
theorem V8:∀(p q:List (List UInt8)),p≠[]->q≠[]->ZM (p++q)=ZM p++47::ZM q
 | [],q,h,_=>absurd rfl h
 | [x],[],_,h=>absurd rfl h
 | [x],y::r,_,_=>rfl
 | x::y::r,q,_,hq=>by
  have:=V8 (y::r) q (by simp) hq
  show x++47::ZM (y::r++q)=_
  rw[this];simp[ZM]
theorem X5:∀l,ZM (qE 47 l)=l
 | []=>rfl
 | b::l=>by
  have ih:=X5 l
  unfold qE
  split
  ·rename_i hb;subst hb
   cases hs:qE 47 l with
   | nil=>exact absurd hs (yU _ _)
   | cons x r=>rw[hs]at ih;simp[ZM,ih]
  ·cases hs:qE 47 l with
   | nil=>exact absurd hs (yU _ _)
   | cons x r =>
    rw[hs]at ih
    cases r with
    | nil=>simp only[ZM]at ih |-;rw[ih]
    | cons z q=>simp only[ZM]at ih |-;rw[<-ih];rfl
theorem K6:∀(l x:List UInt8),x∈qE 47 l->(47:UInt8)∉x
 | [],x,h=>by simp_all[qE]
 | b::l,x,h=>by
  unfold qE at h
  split at h
  ·rcases List.mem_cons.1 h with rfl|h
   ·simp
   ·exact K6 l x h
  ·rename_i hb
   cases hs:qE 47 l with
   | nil=>grind
   | cons y r =>
    rw[hs]at h
    rcases List.mem_cons.1 h with rfl|h
    ·have:=K6 l y (by rw[hs];simp)
     grind
    ·exact K6 l x (by rw[hs];simp[h])
theorem uM:∀(x:List UInt8),(47:UInt8)∉x->qE 47 x=[x]
 | [],_=>rfl
 | b::l,h=>by
  simp only[List.mem_cons,not_or]at h
  rw[qE,if_neg (fun e=>h.1 e.symm),uM l h.2]
theorem GQ:∀(a b:List UInt8),qE 47 (a++47::b)=qE 47 a++qE 47 b
 | [],b=>by simp[qE]
 | x::a,b=>by
  have ih:=GQ a b
  simp only[List.cons_append,qE]
  split
  ·rw[ih];simp
  ·rw[ih]
   cases hs:qE 47 a with
   | nil=>exact absurd hs (yU _ _)
   | cons y r=>simp
theorem C1:∀(p:List (List UInt8)),p≠[]->(∀x∈p,(47:UInt8)∉x)->qE 47 (ZM p)=p
 | [],h,_=>absurd rfl h
 | [x],_,h=>uM x (h x (by simp))
 | x::y::r,_,h=>by
  show qE 47 (x++47::ZM (y::r))=_
  rw[GQ,uM x (h x (by simp)),C1 (y::r) (by simp) (fun z hz=>h z (by simp[hz]))]
  rfl
def UJ (l:List UInt8):List UInt8:=if jQ l=true/\(qE 47 l).length≠1 then ZM (qE 47 l).dropLast else []
theorem ze7 (l:List UInt8):jQ l=true<->(qE 47 l).length<=16/\∀x∈qE 47 l,QM x=true:=by simp[jQ]
theorem zgs {l:List UInt8} (hm:jQ l=true) (h1:(qE 47 l).length≠1):∃x,l=UJ l++47::x/\(47:UInt8)∉x/\jQ (UJ l)=true/\UJ l≠[]:=by
 have hne:=yU 47 l
 have hdl:(qE 47 l).dropLast≠[]:=by
  intro h
  have:=congrArg List.length h
  grind [List.length_pos_iff]
 have hd:UJ l=ZM (qE 47 l).dropLast:=by simp_all[UJ]
 have hmem:∀x∈(qE 47 l).dropLast,x∈qE 47 l:=fun x hx=>(List.dropLast_sublist _).subset hx
 have hsp:qE 47 (UJ l)=(qE 47 l).dropLast:=by
  grind [C1,K6]
 rw[ze7]at hm
 refine⟨(qE 47 l).getLast hne,?_,K6 l _ (List.getLast_mem hne),?_,?_⟩
 ·rw[hd]
  have:=V8 (qE 47 l).dropLast [(qE 47 l).getLast hne] hdl (by simp)
  rw[List.dropLast_concat_getLast hne,X5]at this
  exact this
 ·grind [ze7]
 ·intro h0
  rw[h0]at hsp
  simp only[qE]at hsp
  have:=hm.2 [] (hmem [] (by grind))
  simp_all[QM]
theorem zn8 {u x d:List UInt8} (hx:(47:UInt8)∉x):wL (u++47::x) (d++[47])=(decide (u=d)||wL u (d++[47])):=by
 rw[Bool.eq_iff_iff]
 simp only[wL,decide_eq_true_eq,Bool.or_eq_true,List.length_append,List.length_singleton]
 have key:∀l:List UInt8,l.take (d.length+1)=d++[47]<->l.take d.length=d/\l[d.length]?=some 47:=by
  intro l
  constructor
  ·intro h
   have hlen:=congrArg List.length h
   simp at hlen
   constructor
   ·have:=congrArg (List.take d.length) h
    grind
   ·have:=congrArg (·[d.length]?) h
    grind
  simp_all[List.getElem?_eq_some_iff,List.take_succ_eq_append_getElem]
 grind
theorem zpb {l d:List UInt8} (hm:jQ l=true) (hp:wL l (d++[47])=true):jQ d=true:=by
 simp only[wL,decide_eq_true_eq]at hp
 have hl:l=d++47::l.drop (d++[47]).length:=by
  grind [List.take_append_drop]
 rw[ze7]at hm |-
 rw[hl,GQ]at hm
 refine⟨by grind,fun x hx=>hm.2 x (by simp[hx])⟩
theorem zgp {l d:List UInt8} (hm:jQ l=true) (hd:d≠[]):kN l d=(decide (UJ l≠[])&&(decide (UJ l=d)||kN (UJ l) d)):=by
 have hu:∀l,jQ l=true->kN l d=wL l (d++[47]):=by
  intro l hm
  simp only[kN,hm,hd,decide_false,Bool.true_and,Bool.false_or]
  grind [zpb]
 rw[hu l hm]
 by_cases h1:(qE 47 l).length=1
 ·have hd0:UJ l=[]:=by simp[UJ,h1]
  rw[hd0]
  simp only[ne_eq,not_true_eq_false,decide_false,Bool.false_and]
  have h47:(47:UInt8)∉l:=by
   cases hs:qE 47 l with
   | nil=>simp_all
   | cons x r =>
    rw[hs]at h1
    obtain rfl:r=[]:=List.eq_nil_of_length_eq_zero (by simp_all)
    have h3:=X5 l
    rw[hs]at h3
    rw[<-h3]
    exact K6 l x (by rw[hs];simp)
  cases hp:wL l (d++[47])with
  | false=>rfl
  | true =>
   exfalso
   simp only[wL,decide_eq_true_eq]at hp
   grind [List.mem_of_mem_take]
 ·obtain⟨x,hl,hx,hm2,hne⟩:=zgs hm h1
  rw[hu _ hm2]
  simp only[hne,ne_eq,not_false_eq_true,decide_true,Bool.true_and]
  grind [zn8]
theorem zps {l:List UInt8} (hne:UJ l≠[]):(UJ l).length<l.length:=by
 by_cases hm:jQ l=true
 ·by_cases h1:(qE 47 l).length=1
  ·simp_all[UJ]
  ·obtain⟨x,hl,_⟩:=zgs hm h1
   grind
 simp_all[UJ]
end
section
variable [Sel] [SelPow] [SelMax]
def jX (d:DoV):AV:=.agg [.i .i64 d.kind,.s d.path,.s d.data,.i .i64 d.why]
def kA (k:KnV):AV:=.agg [.s k.path,.b k.is,.s k.data]
def zX (c:CmdV):AV:=.agg [.sl .no (strs c.words),.s c.rest]
def WR (x:Txt × Txt):AV:=.agg [.s x.1,.s x.2]
def j6 (l:List (Txt × Txt)):AV:=.sl .no (l.map WR)
abbrev wH:TyD:=.struct [162,32,9,161,9,4,164]
abbrev ZR:TyD:=.struct [24,9]
abbrev XZ:TyD:=.map 9 4
def knE (l:List KnV):List (AV × AV):=l.map fun k=>(.s k.path,kA k)
def uX (l:List Txt):List (AV × AV):=l.map fun p=>(.s p,.b true)
noncomputable def qP (ta ea:AV) (buf:Txt) (K:Nat) (asks:Txt) (waits:Bool) (over:DoV):HObj:=.var wH (.agg [ta,ea,.s buf,.map (some K),.s asks,.b waits,jX over])
theorem JR {ta ea:AV} {buf:Txt} {K:Nat} {asks:Txt} {waits:Bool} {over:DoV} (h1:ta.erk=ta) (h2:ea.erk=ea):(qP ta ea buf K asks waits over).er=qP ta ea buf K asks waits over:=by
 simp[qP,HObj.er_var,AV.erk,AV.erks,h1,h2,jX]
theorem zjI (R:Nat) (e:Int) (ta ea:AV) (buf:Txt) (K:Nat) (asks:Txt) (waits:Bool) (over:DoV) (h1:ta.erk=ta) (h2:ea.erk=ea) :
  q7 Tryz.prog 146 [.av .ptr (.ptr R wH []),.av (.int .i64) (.i .i64 e)] [(R,qP ta ea buf K asks waits over)] fun r H'=>r=.tup []/\H'=[(R,qP ta ea buf K asks waits ⟨4,[],[],e⟩)]:=by
 refine zov Tryz.func146 cf0 fun imm0 w0=>?_
 simp (disch:=omega) [zz,qP]
 simp (disch:=omega) [zz,Tryz.f146,h1,h2,jX]
theorem zlD (R:Nat) (s:Txt) (ta ea:AV) (buf:Txt) (K:Nat) (asks:Txt) (waits:Bool) (over:DoV) (h1:ta.erk=ta) (h2:ea.erk=ea) (hb:buf.length<=1000000000) (hs:s.length<=1000000000000000) :
  q7 Tryz.prog 141 [.av .ptr (.ptr R wH []),.av .str (.s s)] [(R,qP ta ea buf K asks waits over)] fun r H'=>r=.tup []/\H'=[(R,if 65536<buf.length+s.length then qP ta ea buf K asks waits ⟨4,[],[],6⟩ else qP ta ea (buf++s) K asks waits over)]:=by
 refine zov Tryz.func141 cf0 fun imm0 w0=>?_
 by_cases h:65536<buf.length+s.length
 ·have h':(65536:Int)<(buf.length:Int)+s.length:=by omega
  simp (disch:=omega) [zz,qP,h']
  refine qD (R:=fun r H'=>r=.tup []/\H'=[(R,qP ta ea buf K asks waits ⟨4,[],[],6⟩)]) [(R,qP ta ea buf K asks waits over)] [] (by simp[qP]) rfl (by simp[qI]) (by simp) ?_ ?_
  ·have:=zjI R 6 ta ea buf K asks waits over h1 h2
   have he:=JR (buf:=buf) (K:=K) (asks:=asks) (waits:=waits) (over:=over) h1 h2
   simp only[q8.er_cons,q8.er_nil,he]
   exact q7.args this (by simp[qM,coC,TV.er,AV.er])
  rintro r H' ⟨rfl,rfl⟩ _
  refine⟨_,by simpa using HSub.refl _,?_⟩
  have he:=JR (buf:=buf) (K:=K) (asks:=asks) (waits:=waits) (over:=(⟨4,[],[],6⟩:DoV)) h1 h2
  simp (disch:=omega) [zz,Tryz.f141,he,h]
  rfl
 ·have h':¬(65536:Int)<(buf.length:Int)+s.length:=by omega
  simp (disch:=omega) [zz,qP,h',h]
  refine⟨by omega,?_⟩
  simp (disch:=omega) [zz,Tryz.f141,h1,h2,jX,h]
noncomputable def zJ (R:Nat):HObj:=.var .ptr (.ptr R wH [])
abbrev ztB:Cfg:=⟨fun n=>n==2||n==3,fun _=>false⟩
theorem zgV (R:Nat) (tv:AV) (ht:tv.er=tv) (ht2:tv.erk=tv) :
  q7 Tryz.prog 140 [.av .ptr (.ptr R wH []),.av .func tv] [] fun r H'=>∃br bt,r=.av .func (.fn 167 [.ptr br .ptr [],.ptr bt .func []])/\H'=[(bt,.var .func tv),(br,zJ R)]:=by
 refine zov Tryz.func140 ztB fun imm0 w0=>?_
 simp (disch:=omega) [zz]
 intro br bt hb
 simp (disch:=omega) [zz,Tryz.f140,ht,ht2,zJ]
 exact⟨br,bt,⟨rfl,rfl⟩,rfl,rfl⟩
end
end Go.Proofs.YtfkcpballfhddaaGreatDoor
