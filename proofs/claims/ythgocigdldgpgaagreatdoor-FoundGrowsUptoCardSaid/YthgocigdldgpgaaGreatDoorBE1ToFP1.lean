/- The law BoxEnds: the program. No condition beyond each theorem's own. -/
import Derived.Test.YthgocigdldgpgaaGreatDoorBE0
import Derived.Test.YthgocigdldgpgaaGreatDoorBX2ToBL0
set_option linter.unusedSimpArgs false
set_option linter.unusedVariables false
set_option linter.unusedSectionVars false
section
set_option maxRecDepth 100000
namespace Go.Proofs.YthgocigdldgpgaaGreatDoor
open Go Go.Ab
open Classical
variable [Sel] [SelPow] [SelMax]
theorem Z4.outl {env:List (Txt × Txt)} {cs:List CmdV} {outs:List Txt} {may:Txt→Bool} {kn:List KnV} {b:BoxV} (h:Z4 env cs outs may kn b) (ho:outs.length≤1000000):(yD b).1.outs.length≤1000000000∧(yD b).1.reads.length≤1000000000:=by
 have h1:=h.rl
 have h2:=h.wl ho
 unfold yD
 split
 ·simp
 split
 ·refine⟨?_,by simp only;omega⟩
  simp only[ZH,List.length_map,ZO];omega
 ·exact⟨by simp,by simp only;omega⟩
noncomputable def goF (f:Txt→Option KnV):Nat→BoxV→Option BoxV
 | 0,_=>none
 | n+1,b=>if b.over=true then some b else match f b.asks with
  | none=>some b
  | some k=>goF f n (kB k b).2
def Ans (f:Txt→Option KnV):Prop:=∀p k,f p=some k→k.path=p∧k.data.length≤65536
theorem zwI {env:List (Txt × Txt)} {c0:CfV} {outs:List Txt} {may:Txt→Bool} {f:Txt→Option KnV} (hf:Ans f):∀(n:Nat) {kn:List KnV} {wr:List DoV} {b:BoxV},WY env c0 kn outs may wr b→500-kn.length<n→
  ∃b',goF f n b=some b'∧(b'.over=true∨f b'.asks=none)
 | 0,_,_,_,_,h=>absurd h (Nat.not_lt_zero _)
 | n+1,kn,wr,b,h,hn=>by
  rw[goF]
  by_cases ho:b.over=true
  ·rw[if_pos ho];exact⟨b,rfl,.inl ho⟩
  rw[if_neg ho]
  have ho':b.over=false:=by simpa using ho
  cases hk:f b.asks with
  | none=>exact⟨b,rfl,.inr hk⟩
  | some k =>
   simp only
   obtain⟨hk1,hk2⟩:=hf _ _ hk
   obtain⟨_,m,hg⟩:=h.give ho' k hk1 hk2
   have hl:=hg.len
   simp only[List.length_append,List.length_cons,List.length_nil]at hl
   exact zwI hf n hg (by simp only[List.length_append,List.length_cons,List.length_nil];omega)
theorem zw2 {t:Txt} {cs:List CmdV} (hcs:j7 t=.ok cs) {env:List (Txt × Txt)} (h1:env.length≤1000000000) (h2:∀x∈env,x.2.length≤1000000) {outs:List Txt} {may:Txt→Bool} {f:Txt→Option KnV} (hf:Ans f) :
  ∃b',goF f 600 (ZR env outs may cs)=some b'∧Z4 env cs outs may [] (ZR env outs may cs)∧(b'.over=true∨f b'.asks=none):=by
 obtain⟨m,h⟩:=zec env outs may cs (y8 hcs)
 obtain⟨b',g1,g2⟩:=zwI hf 600 h (by simp)
 exact⟨b',g1,zbj hcs h1 h2 outs may,g2⟩
theorem zwK {env:List (Txt × Txt)} {cs:List CmdV} {outs:List Txt} {may:Txt→Bool} {f:Txt→Option KnV} (hf:Ans f):∀(n:Nat) {kn:List KnV} {b b':BoxV},Z4 env cs outs may kn b→goF f n b=some b'→∃kn',Z4 env cs outs may kn' b'
 | 0,_,_,_,_,h=>by cases h
 | n+1,kn,b,b',hk,h=>by
  rw[goF]at h
  by_cases ho:b.over=true
  ·rw[if_pos ho]at h;cases h;exact⟨kn,hk⟩
  rw[if_neg ho]at h
  have ho':b.over=false:=by simpa using ho
  cases hfk:f b.asks with
  | none=>rw[hfk]at h;cases h;exact⟨kn,hk⟩
  | some k =>
   rw[hfk]at h
   simp only at h
   obtain⟨hk1,hk2⟩:=hf _ _ hfk
   exact zwK hf n (hk.give k ho' hk1 hk2).2 h
theorem zuS {b:BoxV} {k:KnV} (ho:b.over=false) (hp:k.path=b.asks) (hd:k.data.length≤65536):(kB k b).2.reads=b.reads++[J9 k]:=by
 unfold kB
 rw[if_neg (by rw[ho];decide),if_neg (by simp[hp]),if_neg (by omega)]
 exact(PD _).2.2
theorem zvp {f:Txt→Option KnV}:∀(n:Nat) {b b':BoxV},goF f n b=some b'→b.reads <+: b'.reads
 | 0,_,_,h=>by cases h
 | n+1,b,b',h=>by
  rw[goF]at h
  by_cases ho:b.over=true
  ·rw[if_pos ho]at h;cases h;exact List.prefix_refl _
  rw[if_neg ho]at h
  cases hf:f b.asks with
  | none=>rw[hf]at h;cases h;exact List.prefix_refl _
  | some k =>
   rw[hf]at h
   exact(cG k b).2.2.trans (zvp n h)
theorem zvD {f g:Txt→Option KnV} (hf:Ans f):∀(n:Nat) {b b':BoxV},goF f n b=some b'→(b'.over=true∨g b'.asks=none)→
  (∀p,(∃r∈b'.reads,r.path=p)→g p=f p)→goF g n b=some b'
 | 0,_,_,h,_,_=>by cases h
 | n+1,b,b',h,hov,hp=>by
  rw[goF]at h ⊢
  by_cases ho:b.over=true
  ·rw[if_pos ho]at h ⊢;exact h
  rw[if_neg ho]at h ⊢
  have ho':b.over=false:=by simpa using ho
  cases hk:f b.asks with
  | none =>
   rw[hk]at h;cases h
   rw[hov.resolve_left ho]
  | some k =>
   rw[hk]at h
   simp only at h
   obtain⟨hk1,hk2⟩:=hf _ _ hk
   have hpre:=zvp n h
   rw[zuS ho' hk1 hk2]at hpre
   have hin:J9 k∈b'.reads:=hpre.subset (by simp)
   rw[hp b.asks ⟨J9 k,hin,hk1⟩,hk]
   exact zvD hf n h hov hp
def zvh:zcy:=⟨0,0,[],[]⟩
noncomputable def zuJ (f:Txt→Option KnV) (a:xW) (cs:List CmdV):BoxV:=(goF f 600 (ZR a.env a.outs (jI a) cs)).getD (ZR a.env a.outs (jI a) cs)
end Go.Proofs.YthgocigdldgpgaaGreatDoor
end
