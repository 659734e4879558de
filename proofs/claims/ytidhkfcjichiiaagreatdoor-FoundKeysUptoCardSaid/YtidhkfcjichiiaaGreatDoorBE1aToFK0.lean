/- The law BoxEnds: the program. No condition beyond each theorem's own. -/
import Derived.Test.YtidhkfcjichiiaaGreatDoorBE0
import Derived.Test.YtidhkfcjichiiaaGreatDoorBX2ToBL0
import Derived.Test.YtidhkfcjichiiaaGreatDoorRW3ToGB1
set_option linter.unusedSimpArgs false
set_option linter.unusedVariables false
set_option linter.unusedSectionVars false
section
set_option maxRecDepth 100000
namespace Go.Proofs.YtidhkfcjichiiaaGreatDoor
open Go Go.Ab
open Classical
variable [Sel] [SelPow] [SelMax]
theorem Z4.outl {env:List (Txt × Txt)} {cs:List CmdV} {outs:List Txt} {may:Txt→Bool} {kn:List KnV} {b:BoxV} (h:Z4 env cs outs may kn b) (ho:outs.length≤1000000):(yD b).1.outs.length≤1000000000∧(yD b).1.reads.length≤1000000000:=by
 have h1:=h.rl
 have h2:=h.wl ho
 unfold yD
 split
 ·simp
 split
 ·refine⟨?_,by simp only;omega⟩
  simp only[ZH,List.length_map,ZO];omega
 ·exact⟨by simp,by simp only;omega⟩
noncomputable def goF (f:Txt→Option KnV):Nat→BoxV→Option BoxV
 | 0,_=>none
 | n+1,b=>if b.over=true then some b else match f b.asks with
  | none=>some b
  | some k=>goF f n (kB k b).2
def Ans (f:Txt→Option KnV):Prop:=∀p k,f p=some k→k.path=p∧k.data.length≤65536
theorem zwI {env:List (Txt × Txt)} {c0:CfV} {outs:List Txt} {may:Txt→Bool} {f:Txt→Option KnV} (hf:Ans f):∀(n:Nat) {kn:List KnV} {wr:List DoV} {b:BoxV},WY env c0 kn outs may wr b→500-kn.length<n→
  ∃b',goF f n b=some b'∧(b'.over=true∨f b'.asks=none)
 | 0,_,_,_,_,h=>absurd h (Nat.not_lt_zero _)
 | n+1,kn,wr,b,h,hn=>by
  rw[goF]
  by_cases ho:b.over=true
  ·rw[if_pos ho];exact⟨b,rfl,.inl ho⟩
  rw[if_neg ho]
  have ho':b.over=false:=by simpa using ho
  cases hk:f b.asks with
  | none=>exact⟨b,rfl,.inr hk⟩
  | some k =>
   simp only
   obtain⟨hk1,hk2⟩:=hf _ _ hk
   obtain⟨_,m,hg⟩:=h.give ho' k hk1 (fun _=>hk2)
   have hl:=hg.len
   simp only[List.length_append,List.length_cons,List.length_nil]at hl
   exact zwI hf n hg (by simp only[List.length_append,List.length_cons,List.length_nil];omega)
theorem zw2 {t:Txt} {cs:List CmdV} (hcs:j7 t=.ok cs) {env:List (Txt × Txt)} (h1:env.length≤1000000000) (h2:∀x∈env,x.2.length≤1000000000000000) {outs:List Txt} {may:Txt→Bool} {f:Txt→Option KnV} (hf:Ans f) :
  ∃b',goF f 600 (ZR env outs may cs)=some b'∧Z4 env cs outs may [] (ZR env outs may cs)∧(b'.over=true∨f b'.asks=none):=by
 obtain⟨m,h⟩:=zec env outs may cs (y8 hcs)
 obtain⟨b',g1,g2⟩:=zwI hf 600 h (by simp)
 exact⟨b',g1,zbj hcs h1 h2 outs may,g2⟩
theorem zwK {env:List (Txt × Txt)} {cs:List CmdV} {outs:List Txt} {may:Txt→Bool} {f:Txt→Option KnV} (hf:Ans f):∀(n:Nat) {kn:List KnV} {b b':BoxV},Z4 env cs outs may kn b→goF f n b=some b'→∃kn',Z4 env cs outs may kn' b'
 | 0,_,_,_,_,h=>by cases h
 | n+1,kn,b,b',hk,h=>by
  rw[goF]at h
  by_cases ho:b.over=true
  ·rw[if_pos ho]at h;cases h;exact⟨kn,hk⟩
  rw[if_neg ho]at h
  have ho':b.over=false:=by simpa using ho
  cases hfk:f b.asks with
  | none=>rw[hfk]at h;cases h;exact⟨kn,hk⟩
  | some k =>
   rw[hfk]at h
   simp only at h
   obtain⟨hk1,hk2⟩:=hf _ _ hfk
   exact zwK hf n (hk.give k ho' hk1 (fun _=>hk2)).2 h
theorem zvC {outs':List Txt} {may':Txt→Bool} {f:Txt→Option KnV}:∀(n:Nat) {b:BoxV},p8 outs' may' b→goF f n (QX outs' may' b)=(goF f n b).map (QX outs' may')
 | 0,_,_=>rfl
 | n+1,b,h=>by
  rw[goF,goF]
  rw[show (QX outs' may' b).over=b.over from rfl,show (QX outs' may' b).asks=b.asks from rfl]
  by_cases ho:b.over=true
  ·rw[if_pos ho,if_pos ho];rfl
  rw[if_neg ho,if_neg ho]
  cases hf:f b.asks with
  | none=>rfl
  | some k =>
   simp only
   have hk:=cG k b
   rw[zdt h]
   exact zvC n ⟨by rw[hk.1];exact h.o,by rw[hk.2.1];exact h.m⟩
def z1 (fs:List U1) (p:Txt):KnV:=match fs.find? fun f=>decide (f.path=p)with
 | none=>⟨p,false,[]⟩
 | some f=>⟨p,true,f.data⟩
def zuK (fs:List U1):Bool:=fs.any fun f=>decide (65536<f.data.length)
def zvh:zcy:=⟨0,0,[],[]⟩
noncomputable def zuJ (f:Txt→Option KnV) (a:xW) (cs:List CmdV):BoxV:=(goF f 600 (ZR a.env a.outs (jI a) cs)).getD (ZR a.env a.outs (jI a) cs)
noncomputable def zuM (fs:List U1):Txt→Option KnV:=fun p=>some (z1 fs p)
noncomputable def zuI (a:xW) (fs:List U1):zcy × Int:=match j7 a.tool with
 | .error en=>(zvh,en.1)
 | .ok cs=>if zuK fs=true then(zvh,6) else((yD (zuJ (zuM fs) a cs)).1,0)
theorem zvy (fs:List U1) (p:Txt):(z1 fs p).path=p:=by unfold z1;split<;>rfl
theorem zuU {fs:List U1} (h:zuK fs=false):Ans (zuM fs):=by
 intro p k hk
 have hk:=(Option.some.inj hk).symm
 subst hk
 refine⟨zvy fs p,?_⟩
 unfold z1
 cases hf:fs.find? (fun f=>decide (f.path=p))with
 | none=>simp
 | some f =>
  have hm:=List.mem_of_find?_eq_some hf
  unfold zuK at h
  rw[List.any_eq_false]at h
  have:=h f hm
  simpa using this
theorem zv2 {a:xW} (ha:zky a) {cs:List CmdV} (hcs:j7 a.tool=.ok cs) {fs:List U1} (hl:zuK fs=false) :
  goF (zuM fs) 600 (ZR a.env a.outs (jI a) cs)=some (zuJ (zuM fs) a cs)∧(zuJ (zuM fs) a cs).over=true∧Z4 a.env cs a.outs (jI a) [] (ZR a.env a.outs (jI a) cs):=by
 obtain⟨b',g1,g2,g3⟩:=zw2 hcs (by have:=ha.be;omega:a.env.length≤1000000000) ha.bev (outs:=a.outs) (may:=jI a) (zuU hl)
 have:zuJ (zuM fs) a cs=b':=by unfold zuJ;rw[g1];rfl
 rw[this]
 exact⟨g1,g3.resolve_right (by simp[zuM]),g2⟩
theorem zvF {a:xW} {fs:List U1} (h:(zuI a fs).2=0):∃cs,j7 a.tool=.ok cs∧zuK fs=false∧zuI a fs=((yD (zuJ (zuM fs) a cs)).1,0):=by
 unfold zuI at h ⊢
 cases hc:j7 a.tool with
 | error en =>
  rw[hc]at h
  have:=Z8 (e:=en.1) (n:=en.2) hc
  simp only at h
  rcases this with h1|h1<;>omega
 | ok cs =>
  rw[hc]at h
  simp only at h ⊢
  cases hl:zuK fs with
  | true=>rw[hl]at h;simp at h
  | false=>exact⟨cs,rfl,rfl,by simp⟩
theorem zvH {a:xW} (ha:zky a) (fs:List U1):(zuI a fs).1.outs.length≤1000000000∧(zuI a fs).1.reads.length≤1000000000:=by
 by_cases h:(zuI a fs).2=0
 ·obtain⟨cs,hcs,hl1,he⟩:=zvF h
  obtain⟨g1,g2,g3⟩:=zv2 ha hcs hl1
  obtain⟨kn',hk⟩:=zwK (zuU hl1) 600 g3 g1
  rw[he]
  exact hk.outl ha.bo
 ·unfold zuI at h ⊢
  cases hc:j7 a.tool with
  | error en=>simp[zvh]
  | ok cs =>
   rw[hc]at h
   simp only at h ⊢
   cases hl:zuK fs with
   | true=>simp[zvh]
   | false=>rw[hl]at h;simp at h
theorem zwm {a b:xW} (hb:zky b) (ht:b.tool=a.tool) (he:b.env=a.env) (hi:∀p,p∈a.ins↔p∈b.ins) (hk:∀p,p∈a.asks↔p∈b.asks) (ho:∀p,p∈a.outs↔p∈b.outs) (fs:List U1):zuI b fs=zuI a fs:=by
 have hm:∀p,jI a p=jI b p:=fun p=>zen ho hi hk p
 unfold zuI
 rw[ht]
 cases hcs:j7 a.tool with
 | error en=>rfl
 | ok cs =>
  simp only
  cases hl:zuK fs with
  | true=>simp
  | false =>
   simp only[Bool.false_eq_true,if_false]
   obtain⟨g1,_,_⟩:=zv2 hb (by rw[ht];exact hcs) hl
   have hn:ZR b.env b.outs (jI b) cs=QX b.outs (jI b) (ZR a.env a.outs (jI a) cs):=by rw[he];exact zfy ho hm
   obtain⟨m,hs⟩:=zec a.env a.outs (jI a) cs (y8 hcs)
   have hal:=zvC (f:=zuM fs) 600 (b:=ZR a.env a.outs (jI a) cs) (outs':=b.outs) (may':=jI b) ⟨by rw[hs.outs];exact ho,by rw[hs.may];exact hm⟩
   have:zuJ (zuM fs) b cs=QX b.outs (jI b) (zuJ (zuM fs) a cs):=by
    unfold zuJ
    rw[hn,hal]
    cases goF (zuM fs) 600 (ZR a.env a.outs (jI a) cs)<;>rfl
   rw[this,ziS]
noncomputable def ovF (may:Txt→Bool) (f:StV):Bool:=!(decide (f.stop.kind=1)&&may f.stop.path)
noncomputable def zzs (outs:List Txt) (may:Txt→Bool) (f:StV):Int:=if f.stop.kind=1 then(if may f.stop.path=true then 0 else 13) else if f.stop.kind=3 then(if ∀p∈outs,p∈f.wrote.map (·.path) then 0 else 14) else f.stop.why
theorem zfw.no {outs:List Txt} {l wr:List DoV} {d:DoV} (h:zfw outs l) (hp:wr++[d] <+: l):¬(d.path∈wr.map (·.path)∨d.path∉outs):=by
 obtain⟨t,rfl⟩:=hp
 obtain⟨n1,n2⟩:=h
 rintro(hb|hb)
 ·simp only[List.map_append,List.append_assoc]at n1
  exact(List.nodup_append.1 n1).2.2 _ hb d.path (by simp) rfl
 ·exact hb (n2 d (by simp))
theorem zeV.det {outs:List Txt} {may:Txt→Bool} {f:StV} {b:BoxV} (h:zeV outs may f b) (hR:zfw outs f.wrote):b.over=ovF may f∧b.why=zzs outs may f∧(b.over=false→b.asks=f.stop.path):=by
 cases h with
 | waits h1 h2 h3 h4 h5 h6=>simp[ovF,zzs,h1,h2,h3,h4,h5]
 | read h1 h2 h3 h4 h5=>simp[ovF,zzs,h1,h2,h3,h4]
 | ended h1 h2 h3 h4 h5=>rw[ovF,zzs,if_neg (by rw[h1];decide),if_pos h1,if_pos h2];simp[h1,h3,h4]
 | short h1 h2 h3 h4 h5=>rw[ovF,zzs,if_neg (by rw[h1];decide),if_pos h1,if_neg h2];simp[h1,h3,h4]
 | failed h1 h2 h3 h4 h5=>simp[ovF,zzs,h1,h3,h4]
 | wrote wr d h1 h2 h3 h4=>exact absurd h2 (hR.no h1)
def zz1 (e e':List (Txt × Txt)):Prop:=∀p:Txt,(e.find? fun x=>decide (x.1=p)).map (·.2)=(e'.find? fun x=>decide (x.1=p)).map (·.2)
theorem zzw {e e':List (Txt × Txt)} (h:zz1 e e') (kn:List KnV) (line:Txt) (ws:List Txt) (s:StV):xT e kn line ws s=xT e' kn line ws s:=by
 have h1:=h (ws.getD 1 [])
 unfold xT
 simp only
 cases a:e.find? (fun x=>decide (x.1=ws.getD 1 []))with
 | none =>
  cases b:e'.find? (fun x=>decide (x.1=ws.getD 1 []))with
  | none=>rfl
  | some y=>rw[a,b]at h1;cases h1
 | some x =>
  cases b:e'.find? (fun x=>decide (x.1=ws.getD 1 []))with
  | none=>rw[a,b]at h1;cases h1
  | some y =>
   rw[a,b]at h1
   have h2:x.2=y.2:=Option.some.inj h1
   simp only[h2]
theorem zzh {e e':List (Txt × Txt)} (h:zz1 e e') (kn:List KnV):∀(l:List Txt) (s:StV),Y9 e kn l s=Y9 e' kn l s
 | [],_=>rfl
 | x::r,s=>by rw[Y9,Y9];simp only[zzw h,zzh h kn r]
theorem zA8 {env env':List (Txt × Txt)} {cs:List CmdV} {lines:List Txt} (hl:∃i,yC i lines=.ok cs) (he:zz1 env env') {kn:List KnV} {outs:List Txt} {may:Txt→Bool} {wr wr':List DoV} {b b':BoxV} (h:WY env (C9 cs) kn outs may wr b) (h':WY env' (C9 cs) kn outs may wr' b') :
  b'.over=b.over∧(b.over=false→b'.asks=b.asks)∧yD b'=yD b:=by
 obtain⟨g1,g2⟩:=h.far ⟨hl⟩
 obtain⟨g1',g2'⟩:=h'.far ⟨hl⟩
 have hre:b'.reads=b.reads:=h'.reads.trans h.reads.symm
 rw[←zzh he kn lines st0]at g1' g2'
 generalize Y9 env kn lines st0=f at *
 by_cases hR:zfw outs f.wrote
 ·have hw:b.wrote=f.wrote.map pdW:=by
   rcases g2 with g|g
   ·exact g.2
   ·exact absurd hR g.2.2
  have hw':b'.wrote=f.wrote.map pdW:=by
   rcases g2' with g|g
   ·exact g.2
   ·exact absurd hR g.2.2
  obtain⟨a1,a2,a3⟩:=g1.det hR
  obtain⟨c1,c2,c3⟩:=g1'.det hR
  refine⟨c1.trans a1.symm,fun h=>(c3 (by rw[c1,←a1];exact h)).trans (a3 h).symm,?_⟩
  unfold yD ZH
  rw[c1,a1,c2,a2,hw,hw',hre]
 ·rcases g2 with g|⟨o1,o2,_⟩
  ·exact absurd g.1 hR
  rcases g2' with g|⟨o1',o2',_⟩
  ·exact absurd g.1 hR
  refine⟨o1'.trans o1.symm,fun h=>(by rw[o1]at h;cases h),?_⟩
  unfold yD
  rw[o1,o1',o2,o2',hre]
  rfl
theorem zzo {env env':List (Txt × Txt)} {cs:List CmdV} {lines:List Txt} (hl:∃i,yC i lines=.ok cs) (he:zz1 env env') {outs:List Txt} {may:Txt→Bool} {f:Txt→Option KnV} (hf:Ans f):∀(n:Nat) {kn:List KnV} {wr wr':List DoV} {b b':BoxV},
  WY env (C9 cs) kn outs may wr b→WY env' (C9 cs) kn outs may wr' b'→∀x,goF f n b=some x→∃x',goF f n b'=some x'∧yD x'=yD x
 | 0,_,_,_,_,_,_,_,x,h=>by cases h
 | n+1,kn,wr,wr',b,b',h,h',x,hx=>by
  obtain⟨e1,e2,e3⟩:=zA8 hl he h h'
  rw[goF]at hx ⊢
  rw[e1]
  by_cases ho:b.over=true
  ·rw[if_pos ho]at hx ⊢;cases hx;exact⟨b',rfl,e3⟩
  rw[if_neg ho]at hx ⊢
  have ho':b.over=false:=by simpa using ho
  rw[e2 ho']
  cases hk:f b.asks with
  | none=>rw[hk]at hx;cases hx;exact⟨b',rfl,e3⟩
  | some k =>
   rw[hk]at hx
   simp only at hx ⊢
   obtain⟨hk1,hk2⟩:=hf _ _ hk
   obtain⟨_,m,hg⟩:=h.give ho' k hk1 (fun _=>hk2)
   obtain⟨_,m',hg'⟩:=h'.give (e1.trans ho') k (hk1.trans (e2 ho').symm) (fun _=>hk2)
   exact zzo hl he hf n hg hg' x hx
theorem zA2 {a:xW} {env':List (Txt × Txt)} (ha:zky a) (hb:zky { a with env:=env' }) (he:zz1 a.env env') (fs:List U1):zuI { a with env:=env' } fs=zuI a fs:=by
 unfold zuI
 simp only
 cases hcs:j7 a.tool with
 | error en=>rfl
 | ok cs =>
  simp only
  cases hl:zuK fs with
  | true=>simp
  | false =>
   simp only[Bool.false_eq_true,if_false]
   obtain⟨g1,_,_⟩:=zv2 ha hcs hl
   obtain⟨g2,_,_⟩:=zv2 (a:={ a with env:=env' }) hb hcs hl
   obtain⟨m,hs⟩:=zec a.env a.outs (jI a) cs (y8 hcs)
   obtain⟨m',hs'⟩:=zec env' a.outs (jI a) cs (y8 hcs)
   obtain⟨_,i,hi⟩:=XU hcs
   obtain⟨x',g3,g4⟩:=zzo ⟨i,hi⟩ he (zuU hl) 600 hs hs' _ g1
   have g5:=Option.some.inj (g3.symm.trans g2)
   rw[←g5,g4]
theorem zzG {a b:xW} (ha:zky a) (hb:zky b) (ht:b.tool=a.tool) (he:zz1 a.env b.env) (hi:∀p,p∈a.ins↔p∈b.ins) (hk:∀p,p∈a.asks↔p∈b.asks) (ho:∀p,p∈a.outs↔p∈b.outs) (fs:List U1):zuI b fs=zuI a fs:=by
 have hc:zky { b with env:=a.env }:=⟨hb.bt,ha.be,ha.bev,hb.bi,hb.ba,hb.bae,hb.bo⟩
 rw[←zwm (a:=a) (b:={ b with env:=a.env }) hc ht rfl hi hk ho fs]
 exact zA2 (a:={ b with env:=a.env }) (env':=b.env) hc hb he fs
end Go.Proofs.YtidhkfcjichiiaaGreatDoor
end
