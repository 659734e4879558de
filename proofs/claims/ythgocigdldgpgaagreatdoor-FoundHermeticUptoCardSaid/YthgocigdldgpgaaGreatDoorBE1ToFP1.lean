/- The law BoxEnds: the program. No condition beyond each theorem's own. -/
import Derived.Test.YthgocigdldgpgaaGreatDoorBE0
import Derived.Test.YthgocigdldgpgaaGreatDoorBX2ToBL0
set_option linter.unusedSimpArgs false
set_option linter.unusedVariables false
set_option linter.unusedSectionVars false
section
set_option maxRecDepth 100000
namespace Go.Proofs.YthgocigdldgpgaaGreatDoor
open Go Go.Ab
open Classical
variable [Sel] [SelPow] [SelMax]
theorem Z4.outl {env:List (Txt × Txt)} {cs:List CmdV} {outs:List Txt} {may:Txt→Bool} {kn:List KnV} {b:BoxV} (h:Z4 env cs outs may kn b) (ho:outs.length≤1000000):(yD b).1.outs.length≤1000000000∧(yD b).1.reads.length≤1000000000:=by
 have h1:=h.rl
 have h2:=h.wl ho
 unfold yD
 split
 ·simp
 split
 ·refine⟨?_,by simp only;omega⟩
  simp only[ZH,List.length_map,ZO];omega
 ·exact⟨by simp,by simp only;omega⟩
noncomputable def goF (f:Txt→Option KnV):Nat→BoxV→Option BoxV
 | 0,_=>none
 | n+1,b=>if b.over=true then some b else match f b.asks with
  | none=>some b
  | some k=>goF f n (kB k b).2
def Ans (f:Txt→Option KnV):Prop:=∀p k,f p=some k→k.path=p∧k.data.length≤65536
theorem zwI {env:List (Txt × Txt)} {c0:CfV} {outs:List Txt} {may:Txt→Bool} {f:Txt→Option KnV} (hf:Ans f):∀(n:Nat) {kn:List KnV} {wr:List DoV} {b:BoxV},WY env c0 kn outs may wr b→500-kn.length<n→
  ∃b',goF f n b=some b'∧(b'.over=true∨f b'.asks=none)
 | 0,_,_,_,_,h=>absurd h (Nat.not_lt_zero _)
 | n+1,kn,wr,b,h,hn=>by
  rw[goF]
  by_cases ho:b.over=true
  ·rw[if_pos ho];exact⟨b,rfl,.inl ho⟩
  rw[if_neg ho]
  have ho':b.over=false:=by simpa using ho
  cases hk:f b.asks with
  | none=>exact⟨b,rfl,.inr hk⟩
  | some k =>
   simp only
   obtain⟨hk1,hk2⟩:=hf _ _ hk
   obtain⟨_,m,hg⟩:=h.give ho' k hk1 hk2
   have hl:=hg.len
   simp only[List.length_append,List.length_cons,List.length_nil]at hl
   exact zwI hf n hg (by simp only[List.length_append,List.length_cons,List.length_nil];omega)
theorem zw2 {t:Txt} {cs:List CmdV} (hcs:j7 t=.ok cs) {env:List (Txt × Txt)} (h1:env.length≤1000000000) (h2:∀x∈env,x.2.length≤1000000) {outs:List Txt} {may:Txt→Bool} {f:Txt→Option KnV} (hf:Ans f) :
  ∃b',goF f 600 (ZR env outs may cs)=some b'∧Z4 env cs outs may [] (ZR env outs may cs)∧(b'.over=true∨f b'.asks=none):=by
 obtain⟨m,h⟩:=zec env outs may cs (y8 hcs)
 obtain⟨b',g1,g2⟩:=zwI hf 600 h (by simp)
 exact⟨b',g1,zbj hcs h1 h2 outs may,g2⟩
theorem zwK {env:List (Txt × Txt)} {cs:List CmdV} {outs:List Txt} {may:Txt→Bool} {f:Txt→Option KnV} (hf:Ans f):∀(n:Nat) {kn:List KnV} {b b':BoxV},Z4 env cs outs may kn b→goF f n b=some b'→∃kn',Z4 env cs outs may kn' b'
 | 0,_,_,_,_,h=>by cases h
 | n+1,kn,b,b',hk,h=>by
  rw[goF]at h
  by_cases ho:b.over=true
  ·rw[if_pos ho]at h;cases h;exact⟨kn,hk⟩
  rw[if_neg ho]at h
  have ho':b.over=false:=by simpa using ho
  cases hfk:f b.asks with
  | none=>rw[hfk]at h;cases h;exact⟨kn,hk⟩
  | some k =>
   rw[hfk]at h
   simp only at h
   obtain⟨hk1,hk2⟩:=hf _ _ hfk
   exact zwK hf n (hk.give k ho' hk1 hk2).2 h
theorem zvC {outs':List Txt} {may':Txt→Bool} {f:Txt→Option KnV}:∀(n:Nat) {b:BoxV},p8 outs' may' b→goF f n (QX outs' may' b)=(goF f n b).map (QX outs' may')
 | 0,_,_=>rfl
 | n+1,b,h=>by
  rw[goF,goF]
  rw[show (QX outs' may' b).over=b.over from rfl,show (QX outs' may' b).asks=b.asks from rfl]
  by_cases ho:b.over=true
  ·rw[if_pos ho,if_pos ho];rfl
  rw[if_neg ho,if_neg ho]
  cases hf:f b.asks with
  | none=>rfl
  | some k =>
   simp only
   have hk:=cG k b
   rw[zdt h]
   exact zvC n ⟨by rw[hk.1];exact h.o,by rw[hk.2.1];exact h.m⟩
theorem zuS {b:BoxV} {k:KnV} (ho:b.over=false) (hp:k.path=b.asks) (hd:k.data.length≤65536):(kB k b).2.reads=b.reads++[J9 k]:=by
 unfold kB
 rw[if_neg (by rw[ho];decide),if_neg (by simp[hp]),if_neg (by omega)]
 exact(PD _).2.2
theorem zvp {f:Txt→Option KnV}:∀(n:Nat) {b b':BoxV},goF f n b=some b'→b.reads <+: b'.reads
 | 0,_,_,h=>by cases h
 | n+1,b,b',h=>by
  rw[goF]at h
  by_cases ho:b.over=true
  ·rw[if_pos ho]at h;cases h;exact List.prefix_refl _
  rw[if_neg ho]at h
  cases hf:f b.asks with
  | none=>rw[hf]at h;cases h;exact List.prefix_refl _
  | some k =>
   rw[hf]at h
   exact(cG k b).2.2.trans (zvp n h)
theorem zvD {f g:Txt→Option KnV} (hf:Ans f):∀(n:Nat) {b b':BoxV},goF f n b=some b'→(b'.over=true∨g b'.asks=none)→
  (∀p,(∃r∈b'.reads,r.path=p)→g p=f p)→goF g n b=some b'
 | 0,_,_,h,_,_=>by cases h
 | n+1,b,b',h,hov,hp=>by
  rw[goF]at h ⊢
  by_cases ho:b.over=true
  ·rw[if_pos ho]at h ⊢;exact h
  rw[if_neg ho]at h ⊢
  have ho':b.over=false:=by simpa using ho
  cases hk:f b.asks with
  | none =>
   rw[hk]at h;cases h
   rw[hov.resolve_left ho]
  | some k =>
   rw[hk]at h
   simp only at h
   obtain⟨hk1,hk2⟩:=hf _ _ hk
   have hpre:=zvp n h
   rw[zuS ho' hk1 hk2]at hpre
   have hin:J9 k∈b'.reads:=hpre.subset (by simp)
   rw[hp b.asks ⟨J9 k,hin,hk1⟩,hk]
   exact zvD hf n h hov hp
theorem zvx {f g:Txt→Option KnV} (hf:Ans f) (hg:Ans g) (hft:∀p,f p≠none) (hgt:∀p,g p≠none):∀(n m:Nat) {b x y:BoxV},goF f n b=some x→goF g m b=some y→∀i (hi:i<x.reads.length),b.reads.length≤i→
  (∀j (hj:j<i),b.reads.length≤j→f (x.reads[j]'(by omega)).path=g (x.reads[j]'(by omega)).path)→∃h:i<y.reads.length,y.reads[i].path=x.reads[i].path
 | 0,_,_,_,_,h,_,_,_,_,_=>by cases h
 | _+1,0,_,_,_,_,h,_,_,_,_=>by cases h
 | n+1,m+1,b,x,y,hx,hy,i,hi,hb,hs=>by
  rw[goF]at hx hy
  by_cases ho:b.over=true
  ·rw[if_pos ho]at hx;cases hx;omega
  rw[if_neg ho]at hx hy
  have ho':b.over=false:=by simpa using ho
  cases hk:f b.asks with
  | none=>exact absurd hk (hft _)
  | some k =>
  cases hk':g b.asks with
  | none=>exact absurd hk' (hgt _)
  | some k' =>
   rw[hk]at hx
   rw[hk']at hy
   simp only at hx hy
   obtain⟨a1,a2⟩:=hf _ _ hk
   obtain⟨c1,c2⟩:=hg _ _ hk'
   have px:=zvp n hx
   have py:=zvp m hy
   rw[zuS ho' a1 a2]at px
   rw[zuS ho' c1 c2]at py
   obtain⟨tx,ex⟩:=px
   obtain⟨ty,ey⟩:=py
   rcases Nat.eq_or_lt_of_le hb with he|hlt
   ·subst he
    have e1:x.reads[b.reads.length]'hi=J9 k:=by simp[←ex]
    have hl:b.reads.length<y.reads.length:=by rw[←ey];simp
    have e2:y.reads[b.reads.length]'hl=J9 k':=by simp[←ey]
    exact⟨hl,by rw[e1,e2];exact c1.trans a1.symm⟩
   ·have hbx:b.reads.length<x.reads.length:=by omega
    have e1:x.reads[b.reads.length]'hbx=J9 k:=by simp[←ex]
    have h0:=hs b.reads.length hlt (Nat.le_refl _)
    rw[e1,show (J9 k).path=b.asks from a1,hk,hk']at h0
    have hkk:=Option.some.inj h0
    subst hkk
    have hl1:(kB k b).2.reads.length=b.reads.length+1:=by rw[zuS ho' a1 a2];simp
    exact zvx hf hg hft hgt n m hx hy i hi (by omega) fun j hj hbj=>hs j hj (by omega)
def z1 (fs:List U1) (p:Txt):KnV:=match fs.find? fun f=>decide (f.path=p)with
 | none=>⟨p,false,[]⟩
 | some f=>⟨p,true,f.data⟩
def zuK (fs:List U1):Bool:=fs.any fun f=>decide (65536<f.data.length)
def zvh:zcy:=⟨0,0,[],[]⟩
noncomputable def zuJ (f:Txt→Option KnV) (a:xW) (cs:List CmdV):BoxV:=(goF f 600 (ZR a.env a.outs (jI a) cs)).getD (ZR a.env a.outs (jI a) cs)
noncomputable def zuM (fs:List U1):Txt→Option KnV:=fun p=>some (z1 fs p)
noncomputable def zuI (a:xW) (fs:List U1):zcy × Int:=match j7 a.tool with
 | .error en=>(zvh,en.1)
 | .ok cs=>if zuK fs=true then(zvh,6) else((yD (zuJ (zuM fs) a cs)).1,0)
theorem zvy (fs:List U1) (p:Txt):(z1 fs p).path=p:=by unfold z1;split<;>rfl
theorem zuU {fs:List U1} (h:zuK fs=false):Ans (zuM fs):=by
 intro p k hk
 have hk:=(Option.some.inj hk).symm
 subst hk
 refine⟨zvy fs p,?_⟩
 unfold z1
 cases hf:fs.find? (fun f=>decide (f.path=p))with
 | none=>simp
 | some f =>
  have hm:=List.mem_of_find?_eq_some hf
  unfold zuK at h
  rw[List.any_eq_false]at h
  have:=h f hm
  simpa using this
theorem zv2 {a:xW} (ha:zky a) {cs:List CmdV} (hcs:j7 a.tool=.ok cs) {fs:List U1} (hl:zuK fs=false) :
  goF (zuM fs) 600 (ZR a.env a.outs (jI a) cs)=some (zuJ (zuM fs) a cs)∧(zuJ (zuM fs) a cs).over=true∧Z4 a.env cs a.outs (jI a) [] (ZR a.env a.outs (jI a) cs):=by
 obtain⟨b',g1,g2,g3⟩:=zw2 hcs (by have:=ha.be;omega:a.env.length≤1000000000) ha.bev (outs:=a.outs) (may:=jI a) (zuU hl)
 have:zuJ (zuM fs) a cs=b':=by unfold zuJ;rw[g1];rfl
 rw[this]
 exact⟨g1,g3.resolve_right (by simp[zuM]),g2⟩
theorem zvF {a:xW} {fs:List U1} (h:(zuI a fs).2=0):∃cs,j7 a.tool=.ok cs∧zuK fs=false∧zuI a fs=((yD (zuJ (zuM fs) a cs)).1,0):=by
 unfold zuI at h ⊢
 cases hc:j7 a.tool with
 | error en =>
  rw[hc]at h
  have:=Z8 (e:=en.1) (n:=en.2) hc
  simp only at h
  rcases this with h1|h1<;>omega
 | ok cs =>
  rw[hc]at h
  simp only at h ⊢
  cases hl:zuK fs with
  | true=>rw[hl]at h;simp at h
  | false=>exact⟨cs,rfl,rfl,by simp⟩
theorem zvH {a:xW} (ha:zky a) (fs:List U1):(zuI a fs).1.outs.length≤1000000000∧(zuI a fs).1.reads.length≤1000000000:=by
 by_cases h:(zuI a fs).2=0
 ·obtain⟨cs,hcs,hl1,he⟩:=zvF h
  obtain⟨g1,g2,g3⟩:=zv2 ha hcs hl1
  obtain⟨kn',hk⟩:=zwK (zuU hl1) 600 g3 g1
  rw[he]
  exact hk.outl ha.bo
 ·unfold zuI at h ⊢
  cases hc:j7 a.tool with
  | error en=>simp[zvh]
  | ok cs =>
   rw[hc]at h
   simp only at h ⊢
   cases hl:zuK fs with
   | true=>simp[zvh]
   | false=>rw[hl]at h;simp at h
theorem zvz {a:xW} (ha:zky a) {fs gs:List U1} (h:(zuI a fs).2=0) (hl:zuK gs=false) (hs:∀r∈(zuI a fs).1.reads,z1 gs r.path=z1 fs r.path):zuI a gs=zuI a fs:=by
 obtain⟨cs,hcs,hl1,he⟩:=zvF h
 obtain⟨g1,g2,_⟩:=zv2 ha hcs hl1
 rw[he]at hs ⊢
 simp only[zew g2]at hs
 have h2:=zvD (g:=zuM gs) (zuU hl1) 600 g1 (.inl g2) (by
  rintro p ⟨r,hr,rfl⟩
  exact congrArg some (hs r hr))
 have h3:zuJ (zuM gs) a cs=zuJ (zuM fs) a cs:=by rw[zuJ,h2];rfl
 unfold zuI
 rw[hcs]
 simp only
 rw[if_neg (by rw[hl];decide),h3]
theorem zw8 {fs:List U1} {f:U1} {p:Txt} (h:p≠f.path):z1 (f::fs) p=z1 fs p:=by
 unfold z1
 rw[List.find?_cons_of_neg (by simpa using fun e=>h e.symm)]
theorem zwd {fs:List U1} {q p:Txt} (h:p≠q):z1 (fs.filter fun f=>!decide (f.path=q)) p=z1 fs p:=by
 have e2:(fs.filter fun f=>!decide (f.path=q)).find? (fun f=>decide (f.path=p))=fs.find? fun f=>decide (f.path=p):=by
  rw[List.find?_filter]
  refine congrArg (fun f=>fs.find? f) (funext fun a=>?_)
  by_cases e:a.path=p
  ·simp[e,h]
  ·simp[e]
 unfold z1
 rw[e2]
theorem zwg {fs:List U1} {f:U1} (h:zuK fs=false) (hf:f.data.length≤65536):zuK (f::fs)=false:=by
 unfold zuK at h ⊢
 rw[List.any_cons,h]
 simp
 omega
theorem zwf {fs:List U1} {q:Txt} (h:zuK fs=false):zuK (fs.filter fun f=>!decide (f.path=q))=false:=by
 unfold zuK at h ⊢
 rw[List.any_eq_false]at h ⊢
 exact fun x hx=>h x ((List.mem_filter.1 hx).1)
theorem zwm {a b:xW} (hb:zky b) (ht:b.tool=a.tool) (he:b.env=a.env) (hi:∀p,p∈a.ins↔p∈b.ins) (hk:∀p,p∈a.asks↔p∈b.asks) (ho:∀p,p∈a.outs↔p∈b.outs) (fs:List U1):zuI b fs=zuI a fs:=by
 have hm:∀p,jI a p=jI b p:=fun p=>zen ho hi hk p
 unfold zuI
 rw[ht]
 cases hcs:j7 a.tool with
 | error en=>rfl
 | ok cs =>
  simp only
  cases hl:zuK fs with
  | true=>simp
  | false =>
   simp only[Bool.false_eq_true,if_false]
   obtain⟨g1,_,_⟩:=zv2 hb (by rw[ht];exact hcs) hl
   have hn:ZR b.env b.outs (jI b) cs=QX b.outs (jI b) (ZR a.env a.outs (jI a) cs):=by rw[he];exact zfy ho hm
   obtain⟨m,hs⟩:=zec a.env a.outs (jI a) cs (y8 hcs)
   have hal:=zvC (f:=zuM fs) 600 (b:=ZR a.env a.outs (jI a) cs) (outs':=b.outs) (may':=jI b) ⟨by rw[hs.outs];exact ho,by rw[hs.may];exact hm⟩
   have:zuJ (zuM fs) b cs=QX b.outs (jI b) (zuJ (zuM fs) a cs):=by
    unfold zuJ
    rw[hn,hal]
    cases goF (zuM fs) 600 (ZR a.env a.outs (jI a) cs)<;>rfl
   rw[this,ziS]
theorem zwb {a:xW} (ha:zky a) {xs ys:List U1} (hx:(zuI a xs).2=0) (hy:(zuI a ys).2=0) (i:Nat) (hi:i<(zuI a xs).1.reads.length)
  (hs:∀j (hj:j<i),z1 xs ((zuI a xs).1.reads[j]'(by omega)).path=z1 ys ((zuI a xs).1.reads[j]'(by omega)).path):∃h:i<(zuI a ys).1.reads.length,(zuI a ys).1.reads[i].path=(zuI a xs).1.reads[i].path:=by
 obtain⟨cs,hcs,hl1,he⟩:=zvF hx
 obtain⟨cs',hcs',hl2,he2⟩:=zvF hy
 rw[hcs]at hcs'
 cases hcs'
 obtain⟨g1,g2,_⟩:=zv2 ha hcs hl1
 obtain⟨g3,g4,_⟩:=zv2 ha hcs hl2
 have ex:(zuI a xs).1.reads=(zuJ (zuM xs) a cs).reads:=by rw[he];exact zew g2
 have ey:(zuI a ys).1.reads=(zuJ (zuM ys) a cs).reads:=by rw[he2];exact zew g4
 simp only[ex]at hi hs ⊢
 simp only[ey]
 have hn0:(ZR a.env a.outs (jI a) cs).reads=[]:=by
  obtain⟨m,h⟩:=zec a.env a.outs (jI a) cs (y8 hcs)
  exact h.reads
 exact zvx (zuU hl1) (zuU hl2) (fun p=>by simp[zuM]) (fun p=>by simp[zuM]) 600 600 g1 g3 i hi (by rw[hn0];simp) fun j hj _=>by
  have:=hs j hj
  simp only[zuM,this]
end Go.Proofs.YthgocigdldgpgaaGreatDoor
end
