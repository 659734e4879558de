/- The law BoxEnds: the program. No condition beyond each theorem's own. -/
import Derived.Test.YtcgpcfcbienapaaGreatDoorBE0
import Derived.Test.YtcgpcfcbienapaaGreatDoorBX2ToBX6
import Derived.Test.YtcgpcfcbienapaaGreatDoorK20ToBX1
import Derived.Test.YtcgpcfcbienapaaGreatDoorRW3ToK6
import Derived.Test.YtcgpcfcbienapaaGreatDoorB0
import Derived.Test.YtcgpcfcbienapaaGreatDoorBR0ToS8
import Derived.Test.YtcgpcfcbienapaaGreatDoorBX5ToBR1
set_option linter.unusedSimpArgs false
set_option linter.unusedVariables false
set_option linter.unusedSectionVars false
section
set_option maxRecDepth 100000
namespace Go.Proofs.YtcgpcfcbienapaaGreatDoor
open Go Go.Ab
open Classical
variable [Sel] [SelPow] [SelMax]
end Go.Proofs.YtcgpcfcbienapaaGreatDoor
end
section
set_option maxRecDepth 100000
namespace Go.Proofs.YtcgpcfcbienapaaGreatDoor
open Go Go.Ab
open Classical
variable [Sel] [SelPow] [SelMax]
noncomputable def goF (f:Txt→Option KnV):Nat→zCU→Option zCU
 | 0,_=>none
 | n+1,b=>if b.over=true then some b else match f b.asks with
  | none=>some b
  | some k=>goF f n (kB k b).2
def Ans (f:Txt→Option KnV):Prop:=∀p k,f p=some k→k.path=p∧k.data.length≤65536
theorem zwI {env:List (Txt × Txt)} {c0:CfV} {outs:List Txt} {may:Txt→Bool} {f:Txt→Option KnV} (hf:Ans f):∀(n:Nat) {kn:List KnV} {wr:List DoV} {b:zCU},WY env c0 kn outs may wr b→500-kn.length<n→
  ∃b',goF f n b=some b'∧(b'.over=true∨f b'.asks=none)
 | 0,_,_,_,_,h=>absurd h (Nat.not_lt_zero _)
 | n+1,kn,wr,b,h,hn=>by
  rw[goF]
  by_cases ho:b.over=true
  ·simp_all
  rw[if_neg ho]
  have ho':b.over=false:=by simp_all
  cases hk:f b.asks with
  | none=>simp_all
  | some k =>
   simp only
   obtain⟨hk1,hk2⟩:=hf _ _ hk
   obtain⟨_,m,hg⟩:=h.give ho' k hk1 (fun _=>hk2)
   have hl:=hg.len
   simp only[List.length_append,List.length_cons,List.length_nil]at hl
   exact zwI hf n hg (by grind)
theorem zw2 {t:Txt} {cs:List CmdV} (hcs:j7 t=.ok cs) {env:List (Txt × Txt)} (h1:env.length≤1000000000) (h2:∀x∈env,x.2.length≤1000000000000000) {outs:List Txt} {may:Txt→Bool} {f:Txt→Option KnV} (hf:Ans f) :
  ∃b',goF f 600 (ZR env outs may cs)=some b'∧Z4 env cs outs may [] (ZR env outs may cs)∧(b'.over=true∨f b'.asks=none):=by
 obtain⟨m,h⟩:=zec env outs may cs (y8 hcs)
 obtain⟨b',g1,g2⟩:=zwI hf 600 h (by simp)
 grind [zbj]
theorem zwK {env:List (Txt × Txt)} {cs:List CmdV} {outs:List Txt} {may:Txt→Bool} {f:Txt→Option KnV} (hf:Ans f):∀(n:Nat) {kn:List KnV} {b b':zCU},Z4 env cs outs may kn b→goF f n b=some b'→∃kn',Z4 env cs outs may kn' b'
 | 0,_,_,_,_,h=>by cases h
 | n+1,kn,b,b',hk,h=>by
  rw[goF]at h
  by_cases ho:b.over=true
  ·grind
  rw[if_neg ho]at h
  have ho':b.over=false:=by simp_all
  cases hfk:f b.asks with
  | none=>grind
  | some k =>
   rw[hfk]at h
   simp only at h
   obtain⟨hk1,hk2⟩:=hf _ _ hfk
   exact zwK hf n (hk.give k ho' hk1 (fun _=>hk2)).2 h
theorem zuS {b:zCU} {k:KnV} (ho:b.over=false) (hp:k.path=b.asks) (hd:k.data.length≤65536):(kB k b).2.reads=b.reads++[J9 k]:=by
 simp_all[kB,if_neg,PD]
theorem zvp {f:Txt→Option KnV}:∀(n:Nat) {b b':zCU},goF f n b=some b'→b.reads <+: b'.reads
 | 0,_,_,h=>by cases h
 | n+1,b,b',h=>by
  rw[goF]at h
  by_cases ho:b.over=true
  ·simp_all
  rw[if_neg ho]at h
  cases hf:f b.asks with
  | none=>simp_all
  | some k =>
   rw[hf]at h
   exact(cG k b).2.2.trans (zvp n h)
theorem zvD {f g:Txt→Option KnV} (hf:Ans f):∀(n:Nat) {b b':zCU},goF f n b=some b'→(b'.over=true∨g b'.asks=none)→
  (∀p,(∃r∈b'.reads,r.path=p)→g p=f p)→goF g n b=some b'
 | 0,_,_,h,_,_=>by cases h
 | n+1,b,b',h,hov,hp=>by
  rw[goF]at h ⊢
  by_cases ho:b.over=true
  ·simp_all
  rw[if_neg ho]at h ⊢
  have ho':b.over=false:=by simp_all
  cases hk:f b.asks with
  | none =>
   simp_all
  | some k =>
   rw[hk]at h
   simp only at h
   obtain⟨hk1,hk2⟩:=hf _ _ hk
   have hpre:=zvp n h
   rw[zuS ho' hk1 hk2]at hpre
   have hin:J9 k∈b'.reads:=hpre.subset (by simp)
   rw[hp b.asks ⟨J9 k,hin,hk1⟩,hk]
   exact zvD hf n h hov hp
theorem zvx {f g:Txt→Option KnV} (hf:Ans f) (hg:Ans g) (hft:∀p,f p≠none) (hgt:∀p,g p≠none):∀(n m:Nat) {b x y:zCU},goF f n b=some x→goF g m b=some y→∀i (hi:i<x.reads.length),b.reads.length≤i→
  (∀j (hj:j<i),b.reads.length≤j→f (x.reads[j]'(by omega)).path=g (x.reads[j]'(by omega)).path)→∃h:i<y.reads.length,y.reads[i].path=x.reads[i].path
 | 0,_,_,_,_,h,_,_,_,_,_=>by cases h
 | _+1,0,_,_,_,_,h,_,_,_,_=>by cases h
 | n+1,m+1,b,x,y,hx,hy,i,hi,hb,hs=>by
  rw[goF]at hx hy
  by_cases ho:b.over=true
  ·grind
  rw[if_neg ho]at hx hy
  have ho':b.over=false:=by simp_all
  cases hk:f b.asks with
  | none=>simp_all
  | some k =>
  cases hk':g b.asks with
  | none=>simp_all
  | some k' =>
   rw[hk]at hx
   rw[hk']at hy
   simp only at hx hy
   obtain⟨a1,a2⟩:=hf _ _ hk
   obtain⟨c1,c2⟩:=hg _ _ hk'
   have px:=zvp n hx
   have py:=zvp m hy
   rw[zuS ho' a1 a2]at px
   rw[zuS ho' c1 c2]at py
   obtain⟨tx,ex⟩:=px
   obtain⟨ty,ey⟩:=py
   rcases Nat.eq_or_lt_of_le hb with he|hlt
   ·grind [J9]
   ·have hbx:b.reads.length<x.reads.length:=by omega
    have e1:x.reads[b.reads.length]'hbx=J9 k:=by simp[←ex]
    have h0:=hs b.reads.length hlt (Nat.le_refl _)
    rw[e1,show (J9 k).path=b.asks from a1,hk,hk']at h0
    have hkk:=Option.some.inj h0
    subst hkk
    have hl1:(kB k b).2.reads.length=b.reads.length+1:=by simp_all[zuS]
    exact zvx hf hg hft hgt n m hx hy i hi (by omega) fun j hj hbj=>hs j hj (by omega)
end Go.Proofs.YtcgpcfcbienapaaGreatDoor
end
section
set_option maxRecDepth 100000
namespace Go.Proofs.YtcgpcfcbienapaaGreatDoor
open Go Go.Ab
open Classical
variable [Sel] [SelPow] [SelMax]
def OvD (r:zCT):Prop:=r.over.data.length≤65536
theorem OvD.fail (e:Int) (r:zCT):OvD (wC e r):=by simp[OvD,wC]
section
variable {r:zCT} (h:OvD r)
include h
theorem OvD.add (s:Txt):OvD (wW s r):=by
 unfold wW
 split
 ·exact .fail _ _
 ·exact h
theorem OvD.th:∀t d,OvD (thR t d r)
 | .add,d=>h.add d
 | .scan _,_=>h
theorem OvD.co:∀k x,OvD (coR k x r)
 | .there t,x=>by
  rw[coR]
  split
  ·exact h.th _ _
  ·exact .fail _ _
 | .tr,x=>by
  rw[coR]
  split
  ·exact h.add _
  ·exact h
theorem OvD.ask (p:Txt) (k:CoV):OvD (Q6 p k r):=by
 unfold Q6
 split
 ·exact h.co _ _
 split
 ·exact .fail _ _
 ·exact h
theorem OvD.scan (p w:Txt) (l:List Txt):OvD (ZL p w { r with seen:=l }):=OvD.ask (r:={ r with seen:=l++[p] }) h _ _
theorem OvD.set (l:List Txt):OvD (kS l r):=OvD.add (r:={ r with buf:=[] }) h _
theorem OvD.turn (a b:Txt):OvD (wK a b r):=by
 unfold wK
 split
 ·exact h.set _
 split
 ·exact h.set _
 split
 ·exact h
 split
 ·exact h
 split
 ·exact h.set _
 ·exact h
theorem OvD.td (hb:r.buf.length≤65536):∀t,OvD (tdR t r)
 | .cmd c=>by
  show OvD (doR c r)
  unfold doR
  simp only
  split
  ·exact h.ask _ _
  split
  ·exact h.ask _ _
  split
  ·exact h.scan _ _ _
  split
  ·exact h.add _
  split
  ·split
   ·exact h.add _
   ·exact .fail _ _
  split
  ·exact hb
  split
  ·split
   ·exact h
   ·exact .fail _ _
  split
  ·exact .fail _ _
  ·exact h.turn _ _
 | .ans k p=>h.co _ _
 | .line s w=>by
  show OvD (Z1 s w r)
  unfold Z1
  split
  ·split
   ·exact h.add _
   split
   ·exact h
   ·exact h.scan _ _ r.seen
  ·exact h.add _
theorem OvD.step (hb:r.buf.length≤65536):OvD (QL r):=by
 unfold QL
 split
 ·simp[OvD]
 ·exact OvD.td (r:={ r with todo:=r.todo.dropLast }) h hb _
end
theorem OvD.runN:∀(n:Nat) {r r':zCT},runN n r=some r'→wH r→OvD r→OvD r'
 | 0,_,_,h,_,_=>by cases h
 | n+1,r,r',h,hg,ho=>by
  rw[Go.Proofs.YtcgpcfcbienapaaGreatDoor.runN]at h
  by_cases hs:kL r=true
  ·rw[if_pos hs]at h;cases h;exact ho
  ·rw[if_neg hs]at h
   exact OvD.runN n h (hg.step (by simpa using hs)) (ho.step hg.inv.s.2.2.1)
theorem OvD.settle {r:zCT} (h:OvD r) (hg:wH r):OvD (kI r):=.runN _ (yW hg.inv).1 hg h
structure zDg (b:zCU):Prop where
 ov:OvD b.run
 wr:∀w∈b.wrote,w.2.length≤65536
 asks:b.asks.length≤1040
 rd:∀r∈b.reads,r.path.length≤1040
theorem zDg.round {b:zCU} (h:zDg b) (hg:ZJ b):zDg (roundB b).1:=by
 have h1:OvD (w9 b.run).2∧(w9 b.run).1.data.length≤65536:=by
  have:=h.ov.settle hg.good
  unfold w9
  simp only
  split
  ·exact⟨this,by simp⟩
  ·refine⟨?_,this⟩
   split
   ·simp[OvD,do0]
   ·exact this
 have h0:=hg.round.2
 have h3:(roundB b).1.reads=b.reads∧(roundB b).1.asks.length≤1040:=by
  unfold roundB JA QM
  simp only
  split
  ·rename_i hk
   split
   ·exact⟨rfl,h0 hk⟩
   ·exact⟨rfl,h.asks⟩
  split
  ·split<;>exact⟨rfl,h.asks⟩
  split
  ·split<;>exact⟨rfl,h.asks⟩
  ·exact⟨rfl,h.asks⟩
 have h2:(roundB b).1.run=(w9 b.run).2∧((roundB b).1.wrote=b.wrote∨(roundB b).1.wrote=b.wrote++[((w9 b.run).1.path,(w9 b.run).1.data)]):=by
  unfold roundB JA QM
  simp only
  split
  ·split<;>exact⟨rfl,.inl rfl⟩
  split
  ·split
   ·exact⟨rfl,.inl rfl⟩
   ·exact⟨rfl,.inr rfl⟩
  split
  ·split<;>exact⟨rfl,.inl rfl⟩
  ·exact⟨rfl,.inl rfl⟩
 refine⟨by rw[h2.1];exact h1.1,fun w hw=>?_,h3.2,by rw[h3.1];exact h.rd⟩
 rcases h2.2 with e|e<;>rw[e]at hw
 ·exact h.wr w hw
 ·rcases List.mem_append.1 hw with hw|hw
  ·exact h.wr w hw
  ·rw[List.mem_singleton.1 hw];exact h1.2
theorem zDg.goN:∀(n:Nat) {b b':zCU},goN n b=some b'→ZJ b→zDg b→zDg b'
 | 0,b,b',h,_,_=>by cases h
 | n+1,b,b',h,hg,hd=>by
  rw[Go.Proofs.YtcgpcfcbienapaaGreatDoor.goN]at h
  by_cases ho:b.over=true
  ·rw[if_pos ho]at h;cases h;exact hd
  rw[if_neg ho]at h
  by_cases h2:(roundB b).2=true
  ·rw[if_pos h2]at h;cases h;exact hd.round hg
  ·rw[if_neg h2]at h
   exact zDg.goN n h hg.roundB (hd.round hg)
theorem zDg.goOn {b:zCU} (hg:ZJ b) (h:zDg b):zDg (yQ b):=by
 unfold yQ
 cases e:Go.Proofs.YtcgpcfcbienapaaGreatDoor.goN (ccR b.run+2) b with
 | none=>exact h
 | some b'=>exact zDg.goN _ e hg h
theorem zDg.give {b:zCU} (h:zDg b) (hg:ZJ b) {k:KnV} (hk:b.over=false→k.path=b.asks→ZJ (zE0 k b)):zDg (kB k b).2:=by
 unfold kB
 split
 ·exact h
 rename_i g1
 split
 ·exact h
 rename_i g2
 split
 ·exact h
 rename_i g3
 have g2:k.path=b.asks:=by simpa using g2
 refine zDg.goOn (hk (by simpa using g1) g2) ⟨?_,h.wr,h.asks,fun r hr=>?_⟩
 ·have:=h.ov.settle hg.good
  unfold QB
  simp only
  split
  ·exact this
  split
  ·exact this
  exact this
 ·rcases List.mem_append.1 hr with hr|hr
  ·exact h.rd r hr
  ·rw[List.mem_singleton.1 hr]
   show k.path.length≤1040
   rw[g2];exact h.asks
theorem zya {f:Txt→Option KnV} (hf:Ans f):∀(n:Nat) {b b':zCU},goF f n b=some b'→(∀r∈b.reads,∃k,f r.path=some k∧J9 k=r)→∀r∈b'.reads,∃k,f r.path=some k∧J9 k=r
 | 0,_,_,h,_=>by cases h
 | n+1,b,b',h,hp=>by
  rw[goF]at h
  by_cases ho:b.over=true
  ·rw[if_pos ho]at h;cases h;exact hp
  rw[if_neg ho]at h
  have ho':b.over=false:=by simpa using ho
  cases hk:f b.asks with
  | none=>rw[hk]at h;cases h;exact hp
  | some k =>
   rw[hk]at h
   obtain⟨h1,h2⟩:=hf _ _ hk
   refine zya hf n h fun r hr=>?_
   rw[zuS ho' h1 h2]at hr
   rcases List.mem_append.1 hr with hr|hr
   ·exact hp r hr
   ·rw[List.mem_singleton.1 hr]
    exact⟨k,by rw[show (J9 k).path=b.asks from h1];exact hk,rfl⟩
theorem zF7 {env:List (Txt × Txt)} {cs:List CmdV} {outs:List Txt} {may:Txt→Bool} {f:Txt→Option KnV} (hf:Ans f):∀(n:Nat) {kn:List KnV} {b b':zCU},Z4 env cs outs may kn b→zDg b→goF f n b=some b'→zDg b'
 | 0,_,_,_,_,_,h=>by cases h
 | n+1,kn,b,b',hk,hd,h=>by
  rw[goF]at h
  by_cases ho:b.over=true
  ·rw[if_pos ho]at h;cases h;exact hd
  rw[if_neg ho]at h
  have ho':b.over=false:=by simpa using ho
  cases hfk:f b.asks with
  | none=>rw[hfk]at h;cases h;exact hd
  | some k =>
   rw[hfk]at h
   simp only at h
   obtain⟨hk1,hk2⟩:=hf _ _ hfk
   exact zF7 hf n (hk.give k ho' hk1 (fun _=>hk2)).2 (hd.give hk.g fun h3 h2=>(hk.can k h3 h2 (fun _=>hk2)).good) h
theorem zFf {a:xW} (ha:zky a) (hw:∀p∈a.outs,p.length≤1000000) {cs:List CmdV} (hcs:j7 a.tool=.ok cs) {f:Txt→Option KnV} (hf:Ans f) {b:zCU} (h:goF f 600 (ZR a.env a.outs (jI a) cs)=some b) (g2:b.over=true) :
  (∀r∈(yD b).1.reads,∃k,f r.path=some k∧J9 k=r)∧(yD b).1.reads.length≤500∧(∀r∈(yD b).1.reads,r.path.length≤1040)∧
  (yD b).1.outs.length≤1000000∧∀f∈(yD b).1.outs,f.path.length≤1000000∧f.data.length≤65536:=by
 have g3:=zbj hcs (env:=a.env) (by have:=ha.be;omega) ha.bev a.outs (jI a)
 obtain⟨kn',hk⟩:=zwK hf 600 g3 h
 have hd:=zF7 hf 600 g3 (zDg.goOn (za8 hcs (by have:=ha.be;omega) ha.bev _ _) ⟨by simp[OvD,CE,do0],by simp[CE],by simp[CE],by simp[CE]⟩) h
 have hn0:(ZR a.env a.outs (jI a) cs).reads=[]:=by
  obtain⟨m,h⟩:=zec a.env a.outs (jI a) cs (y8 hcs)
  exact h.reads
 have ht:=zya hf 600 h (by rw[hn0];simp)
 simp only[zew g2]
 obtain⟨wr,hs⟩:=hk.s
 refine⟨ht,hk.rl,hd.rd,?_,fun f hf=>?_⟩
 ·have:=hk.wl ha.bo
  unfold yD
  split
  ·simp
  split
  ·simp only[ZH,List.length_map,ZO];exact this
  ·simp
 ·have hf':f∈ZH b:=by
   unfold yD at hf
   rw[if_neg (by rw[g2];decide)]at hf
   split at hf
   ·exact hf
   ·cases hf
  obtain⟨p,hp,rfl⟩:=List.mem_map.1 hf'
  have hp:=(W0 _).mem_iff.1 hp
  refine⟨hw _ ?_,?_⟩
  ·rw[hs.wrote]at hp
   simp only[List.map_map,List.mem_map]at hp
   obtain⟨w,h1,rfl⟩:=hp
   exact hs.own w h1
  ·show ((b.wrote.find? fun x=>decide (x.1=p)).getD ([],[])).2.length≤_
   cases e:b.wrote.find? (fun x=>decide (x.1=p))with
   | none=>simp
   | some x=>exact hd.wr _ (List.mem_of_find?_eq_some e)
end Go.Proofs.YtcgpcfcbienapaaGreatDoor
end
section
set_option maxRecDepth 100000
namespace Go.Proofs.YtcgpcfcbienapaaGreatDoor
open Go Go.Ab
open Classical
variable [Sel]
@[simp] theorem zny:qZ Tryz.prog 60=true:=by kernel_rfl
@[simp] theorem zrp:z8 Tryz.prog (.func 60)=false:=q9 zny
@[simp] theorem znz:qZ Tryz.prog 61=true:=by kernel_rfl
@[simp] theorem zsh:z8 Tryz.prog (.func 61)=false:=q9 znz
@[simp] theorem zwU:qZ Tryz.prog 31=true:=by kernel_rfl
@[simp] theorem zxi:z8 Tryz.prog (.func 31)=false:=q9 zwU
theorem zCZ:KW zero32=.agg (List.replicate 32 (.i .u8 0)):=by simp[KW,zero32]
def tr0:zaP:=⟨zero32,[],[]⟩
def zwB:List UInt8:=[111,117,116]
noncomputable def zD1:List (List UInt8)→List Read→Int
 | _,[]=>0
 | met,r::rs=>if yV r.path=false then 1 else if r.path∈met then 8 else if r.is=false∧r.sum≠zero32 then 5 else zD1 (met++[r.path]) rs
noncomputable def zD4:Option (List UInt8)→List Made→Int
 | _,[]=>0
 | none,m::ms=>if zuT m.path zwB=false then 1 else zD4 (some m.path) ms
 | some q,m::ms=>if zuT m.path zwB=false then 1 else if m.path=q then 8 else if Op.bytesLess m.path q=true then 2 else zD4 (some m.path) ms
noncomputable def zCW (t:zaP):Int:=if 500<t.reads.length∨1000<t.outs.length then 6 else if zD1 [] t.reads≠0 then zD1 [] t.reads else zD4 none t.outs
def zEh (l:List (List UInt8)):List (AV × AV):=l.map fun p=>(.s p,.b true)
theorem zEb (p:List UInt8):∀l,yY (.s p) (zEh l)=if p∈l then some (.b true) else none
 | []=>rfl
 | q::l=>by
  have:=zEb p l
  simp only[zEh,List.map_cons,yY]at this ⊢
  by_cases h:q=p
  ·simp[h]
  ·have h':¬p=q:=fun e=>h e.symm
   simp only[AV.s.injEq,h,if_false,this,List.mem_cons,h',false_or]
theorem zEk {p:List UInt8}:∀ {l},p∉l→xX (.s p) (.b true) (zEh l)=zEh (l++[p])
 | [],_=>rfl
 | q::l,h=>by
  simp only[List.mem_cons,not_or]at h
  have:=zEk (l:=l) h.2
  have h':¬q=p:=fun e=>h.1 e.symm
  simp only[zEh,List.map_cons,xX,AV.s.injEq,h',if_false]at this ⊢
  rw[this];rfl
@[simp] theorem zGs (l:List (List UInt8)):(zEh l).map (fun p=>(p.1.er,p.2.er))=zEh l:=by simp[zEh,AV.er,Function.comp_def]
def zGp (l:List Read):Prop:=l.length≤9223372036854775807∧∀r∈l,r.path.length≤9223372036854775807
def zGo (l:List Made):Prop:=l.length≤9223372036854775807∧∀r∈l,r.path.length≤9223372036854775807
set_option maxHeartbeats 8000000 in
theorem zFI (l:List Read) (hl:zGp l):PC Tryz.prog 60 [.av (.slice 54) (qF l)] (.av (.int .i64) (.i .i64 (zD1 [] l))):=by
 obtain⟨hl1,hl2⟩:=hl
 unfold PC
 refine q7.sub (R:=fun r H'=>r=.av (.int .i64) (.i .i64 (zD1 [] l))) ?_ (fun r H' hr _=>⟨[],HSub.of_sub (List.nil_sublist _),hr,rfl⟩)
 refine zov Tryz.func60 cf0 fun imm0 w0=>?_
 (simp (maxSteps:=2000000) (disch:=first|omega|assumption) [zz,qF])
 intro b
 refine AT.loop' (α:=Nat) (fun k=>St.of [(3,.av (.map 9 4) (.map (some b))),(7,.av (.slice 54) (qF l)),(8,.av (.int .i64) (.i .i64 l.length)),(9,.av (.int .i64) (.i .i64 k))] [] (fun _=>0) [(b,.map 9 4 (zEh ((l.take k).map (·.path))))])
  (fun k=>k≤l.length∧zD1 [] l=zD1 ((l.take k).map (·.path)) (l.drop k)) (fun k=>l.length-k) 0 ?_ ?_ ?_
 ·apply Le.of<;>simp[qU,qG,qO,qH,qP,qK,qF,qI,qJ,qN,qF,zEh]<;>try omega
 ·simp
 rintro k ⟨hk,hpk⟩ KL hN hE
 refine qM (cf:=cf0) laid mixed _ _ _ (by kernel_rfl) ?_
 by_cases hlt:k<l.length
 ·have hlt':(k:Int)<l.length:=by omega
  have hdr:l.drop k=l[k]::l.drop (k+1):=(List.getElem_cons_drop hlt).symm
  have htk:(l.take (k+1)).map (·.path)=(l.take k).map (·.path)++[l[k].path]:=by
   rw[List.take_succ_eq_append_getElem hlt]
   simp only[List.map_append,List.map_cons,List.map_nil]
  have hg:=KB qI l k hlt
  have hpl:=hl2 l[k] (List.getElem_mem _)
  obtain⟨r,hr⟩:∃r,r=l[k]:=⟨_,rfl⟩
  rw[←hr]at hdr htk hg hpl
  generalize hmet:(l.take k).map (·.path)=met at *
  have hfd:=zEb r.path met
  rw[hdr,zD1]at hpk
  (simp (maxSteps:=2000000) (disch:=first|omega|assumption) [zz,hlt',hg,qF,qI])
  refine zcv (DL r.path (by omega)) ?_
  cases hm:yV r.path
  ·rw[if_pos hm]at hpk
   (simp (maxSteps:=2000000) (disch:=first|omega|assumption) [zz])
   refine hE _ _ (by simp) ?_
   (simp (maxSteps:=2000000) (disch:=first|omega|assumption) [zz,Tryz.f60,hpk])
  rw[if_neg (by simp[hm])]at hpk
  by_cases hin:r.path∈met
  ·rw[if_pos hin]at hpk hfd
   (simp (maxSteps:=2000000) (disch:=first|omega|assumption) [zz,hfd])
   refine hE _ _ (by simp) ?_
   (simp (maxSteps:=2000000) (disch:=first|omega|assumption) [zz,Tryz.f60,hpk])
  rw[if_neg hin]at hpk hfd
  have hmp:=zEk hin
  cases his:r.is
  ·by_cases hz:r.sum=zero32
   ·rw[if_neg (by simp[hz])]at hpk
    (simp (maxSteps:=2000000) (disch:=first|omega|assumption) [zz,hfd,his,hz,zCZ,hmp,-List.reduceReplicate])
    refine hN _ (k+1) ?_ ⟨by omega,by rw[htk];exact hpk⟩ (by omega)
    apply Le.of<;>simp[qU,qG,qO,qH,qP,qK,qF,qI,qJ,qN,qF,htk]<;>try omega
   ·rw[if_pos ⟨his,hz⟩]at hpk
    have hz':¬r.sum.map (fun b=>AV.i .u8 b.toNat)=List.replicate 32 (.i .u8 0):=by
     intro h
     have:=zCZ
     simp only[KW,AV.agg.injEq]at this
     exact hz (zDL.1 (h.trans this.symm))
    (simp (maxSteps:=2000000) (disch:=first|omega|assumption) [zz,hfd,his,KW,hz',-List.reduceReplicate])
    refine hE _ _ (by simp) ?_
    (simp (maxSteps:=2000000) (disch:=first|omega|assumption) [zz,Tryz.f60,hpk])
  ·rw[if_neg (by simp[his])]at hpk
   (simp (maxSteps:=2000000) (disch:=first|omega|assumption) [zz,hfd,his,hmp])
   refine hN _ (k+1) ?_ ⟨by omega,by rw[htk];exact hpk⟩ (by omega)
   apply Le.of<;>simp[qU,qG,qO,qH,qP,qK,qF,qI,qJ,qN,qF,htk]<;>try omega
 ·have hlt':¬(k:Int)<l.length:=by omega
  (simp (maxSteps:=2000000) (disch:=first|omega|assumption) [zz,hlt'])
  refine hE _ _ (by simp) ?_
  rw[List.drop_of_length_le (by omega),zD1]at hpk
  (simp (maxSteps:=2000000) (disch:=first|omega|assumption) [zz,Tryz.f60,hpk])
end Go.Proofs.YtcgpcfcbienapaaGreatDoor
end
section
set_option maxRecDepth 100000
namespace Go.Proofs.YtcgpcfcbienapaaGreatDoor
open Go Go.Ab
open Classical
variable [Sel] [SelPow] [SelMax]
def zEq (ks:List KnV) (p:Txt):KnV:=(zQ ks p).getD ⟨p,false,[]⟩
def zFd (ks:List KnV):Txt→Option KnV:=fun p=>some (zEq ks p)
theorem zFn (ks:List KnV) (p:Txt):(zEq ks p).path=p:=by
 unfold zEq
 cases h:zQ ks p with
 | none=>rfl
 | some k=>exact(KP h).2
theorem zEc {ks:List KnV} (h:∀k∈ks,k.data.length≤65536):Ans (zFd ks):=fun p k hk=>by
 rw[←Option.some.inj hk]
 refine⟨zFn ks p,?_⟩
 unfold zEq
 cases hf:zQ ks p with
 | none=>simp
 | some k=>exact h k (KP hf).1
noncomputable def zEM (a:xW) (cs:List CmdV) (ks:List KnV):zCU:=(goF (zFd ks) 600 (ZR a.env a.outs (jI a) cs)).getD (ZR a.env a.outs (jI a) cs)
theorem zFa {a:xW} (ha:zky a) {cs:List CmdV} (hcs:j7 a.tool=.ok cs) {ks:List KnV} (hl:∀k∈ks,k.data.length≤65536) :
  goF (zFd ks) 600 (ZR a.env a.outs (jI a) cs)=some (zEM a cs ks)∧(zEM a cs ks).over=true∧Z4 a.env cs a.outs (jI a) [] (ZR a.env a.outs (jI a) cs):=by
 obtain⟨b',g1,g2,g3⟩:=zw2 hcs (by have:=ha.be;omega:a.env.length≤1000000000) ha.bev (outs:=a.outs) (may:=jI a) (zEc hl)
 have:zEM a cs ks=b':=by unfold zEM;rw[g1];rfl
 rw[this]
 exact⟨g1,g3.resolve_right (by simp[zFd]),g2⟩
def zEF (l:List Read):Prop:=(∀r∈l,yV r.path=true∧(r.is=false→r.sum=zero32))∧(l.map (·.path)).Nodup
theorem zEH {env:List (Txt × Txt)} {cs:List CmdV} {outs:List Txt} {may:Txt→Bool} {f:Txt→Option KnV} (hf:Ans f):∀(n:Nat) {kn:List KnV} {b b':zCU},Z4 env cs outs may kn b→goF f n b=some b'→zEF b.reads→zEF b'.reads
 | 0,_,_,_,_,h,_=>by cases h
 | n+1,kn,b,b',hk,h,hp=>by
  rw[goF]at h
  by_cases ho:b.over=true
  ·rw[if_pos ho]at h;cases h;exact hp
  rw[if_neg ho]at h
  have ho':b.over=false:=by simpa using ho
  cases hfk:f b.asks with
  | none=>rw[hfk]at h;cases h;exact hp
  | some k =>
   rw[hfk]at h
   simp only at h
   obtain⟨hk1,hk2⟩:=hf _ _ hfk
   refine zEH hf n (hk.give k ho' hk1 (fun _=>hk2)).2 h ?_
   rw[zuS ho' hk1 hk2]
   obtain⟨wr,hs⟩:=hk.s
   have hno:=(hs.asks ho').2.1
   have hmy:yV b.asks=true:=by
    cases hs.e with
    | waits d hst h1 _ hw ha ha2 _ _=>rw[ha2];exact hk.g.ask.ak hw
    | read d _ _ _ h3 _=>rw[h3]at ho';cases ho'
    | ended d _ _ _ h3 _=>rw[h3]at ho';cases ho'
    | short d _ _ _ h3 _=>rw[h3]at ho';cases ho'
    | failed d _ _ _ h3 _=>rw[h3]at ho';cases ho'
    | wrote d _ _ h3 _=>rw[h3]at ho';cases ho'
   refine⟨fun r hr=>?_,?_⟩
   ·rcases List.mem_append.1 hr with hr|hr
    ·exact hp.1 r hr
    ·rw[List.mem_singleton.1 hr]
     refine⟨by rw[show (J9 k).path=b.asks from hk1];exact hmy,fun hi=>?_⟩
     have hi:k.is=false:=hi
     simp[J9,hi]
   ·rw[List.map_append]
    refine List.nodup_append.2 ⟨hp.2,by simp,fun p hq q hr=>?_⟩
    simp only[List.map_cons,List.map_nil,List.mem_singleton]at hr
    subst hr
    intro e
    rw[hs.reads,List.map_map]at hq
    have:b.asks∈kn.map (·.path):=by
     rw[←show (J9 k).path=b.asks from hk1,←e]
     exact hq
    exact uZ hno this
theorem zDQ:∀ {l:List Read} {met:List (List UInt8)},zEF l→(∀r∈l,r.path∉met)→zD1 met l=0
 | [],_,_,_=>by simp[zD1]
 | r::l,met,h,hm=>by
  obtain⟨h1,h2⟩:=h.1 r (by simp)
  have hn:=h.2
  rw[List.map_cons,List.nodup_cons]at hn
  unfold zD1
  rw[if_neg (by rw[h1];decide),if_neg (hm r (by simp)),if_neg (fun h=>h.2 (h2 h.1))]
  refine zDQ ⟨fun x hx=>h.1 x (by simp[hx]),hn.2⟩ fun x hx hxm=>?_
  rcases List.mem_append.1 hxm with hxm|hxm
  ·exact hm x (by simp[hx]) hxm
  ·rw[List.mem_singleton]at hxm
   exact hn.1 (by rw[←hxm];exact List.mem_map.2 ⟨x,hx,rfl⟩)
theorem zE2:∀ {l:List Made} {q:Option Txt},(∀m∈l,zuT m.path zwB=true)→(l.map (·.path)).Pairwise (fun a b=>a<b)→(∀p,q=some p→∀m∈l,p<m.path)→zD4 q l=0
 | [],q,_,_,_=>by cases q<;>simp[zD4]
 | m::l,q,h1,h2,h3=>by
  rw[List.map_cons,List.pairwise_cons]at h2
  have hu:=h1 m (by simp)
  have ih:zD4 (some m.path) l=0:=zE2 (fun x hx=>h1 x (by simp[hx])) h2.2 fun p hp x hx=>by
   rw[←Option.some.inj hp]
   exact h2.1 _ (List.mem_map.2 ⟨x,hx,rfl⟩)
  cases q with
  | none=>simp[zD4,hu,ih]
  | some p =>
   have h4:=h3 p rfl m (by simp)
   have h5:¬m.path=p:=fun e=>by rw[e]at h4;exact Std.lt_irrefl h4
   have h6:Op.bytesLess m.path p=false:=by
    rw[Go.Proofs.bytesLess_eq]
    simp only[decide_eq_false_iff_not]
    exact fun h=>Std.lt_irrefl (Std.lt_trans h h4)
   simp[zD4,hu,h5,h6,ih]
end Go.Proofs.YtcgpcfcbienapaaGreatDoor
end
section
set_option maxRecDepth 100000
namespace Go.Proofs.YtcgpcfcbienapaaGreatDoor
open Go Go.Ab
open Classical
variable [Sel]
def zEf (l:List Made) (k:Nat):Option (List UInt8):=if k=0 then none else(l[k-1]?).map (·.path)
set_option maxHeartbeats 8000000 in
theorem zFU (l:List Made) (hl:zGo l):PC Tryz.prog 61 [.av (.slice 80) (qJ l)] (.av (.int .i64) (.i .i64 (zD4 none l))):=by
 obtain⟨hl1,hl2⟩:=hl
 refine zow Tryz.func61 cf0 fun imm0 w0=>?_
 (simp (maxSteps:=2000000) (disch:=first|omega|assumption) [zz,qJ])
 refine AT.loop' (α:=Nat) (fun k=>St.of [(0,.av (.slice 80) (qJ l)),(5,.av (.slice 80) (qJ l)),(6,.av (.int .i64) (.i .i64 l.length)),(7,.av (.int .i64) (.i .i64 k))] [] (fun _=>0) [])
  (fun k=>k≤l.length∧zD4 none l=zD4 (zEf l k) (l.drop k)) (fun k=>l.length-k) 0 ?_ ?_ ?_
 ·apply Le.of<;>simp[qU,qG,qO,qH,qP,qK,qF,qI,qJ,qN,qJ]<;>try omega
 ·simp[zEf]
 rintro k ⟨hk,hpk⟩ KL hN hE
 refine qM (cf:=cf0) laid mixed _ _ _ (by kernel_rfl) ?_
 by_cases hlt:k<l.length
 ·have hlt':(k:Int)<l.length:=by omega
  have hdr:l.drop k=l[k]::l.drop (k+1):=(List.getElem_cons_drop hlt).symm
  have hpn:zEf l (k+1)=some l[k].path:=by simp[zEf,List.getElem?_eq_getElem hlt]
  have hg:=KB qN l k hlt
  have hpl:=hl2 l[k] (List.getElem_mem _)
  by_cases h0:k=0
  ·have h0':¬0<k:=by omega
   obtain⟨m,hm⟩:∃m,m=l[k]:=⟨_,rfl⟩
   rw[←hm]at hdr hpn hg hpl
   rw[hdr,zEf,if_pos h0,zD4]at hpk
   (simp (maxSteps:=2000000) (disch:=first|omega|assumption) [zz,hlt',hg,qJ,qN])
   refine qL (zE6 m.path zwB (by omega) (by decide)) rfl rfl (by simp) (by simp[qS,TV.er,AV.er,coC,zwB]) ?_
   cases hu:zuT m.path zwB
   ·rw[if_pos hu]at hpk
    (simp (maxSteps:=2000000) (disch:=first|omega|assumption) [zz])
    refine hE _ _ (by simp) ?_
    (simp (maxSteps:=2000000) (disch:=first|omega|assumption) [zz,Tryz.f61,hpk])
   ·rw[if_neg (by simp[hu])]at hpk
    (simp (maxSteps:=2000000) (disch:=first|omega|assumption) [zz,h0'])
    refine hN _ (k+1) ?_ ⟨by omega,by rw[hpn];exact hpk⟩ (by omega)
    apply Le.of<;>simp[qU,qG,qO,qH,qP,qK,qF,qI,qJ,qN,qJ]<;>try omega
  ·have h0':0<k:=by omega
   have hk1:k-1<l.length:=by omega
   have hk1':(k:Int)-1<l.length:=by omega
   have hk1'':(1:Int)≤k:=by omega
   have hgp:=KB qN l (k-1) hk1
   have hprev:zEf l k=some l[k-1].path:=by simp[zEf,h0,List.getElem?_eq_getElem hk1]
   obtain⟨q,hq⟩:∃q,q=l[k-1]:=⟨_,rfl⟩
   obtain⟨m,hm⟩:∃m,m=l[k]:=⟨_,rfl⟩
   rw[←hm]at hdr hpn hg hpl
   rw[←hq]at hgp hprev
   rw[hdr,hprev,zD4]at hpk
   (simp (maxSteps:=2000000) (disch:=first|omega|assumption) [zz,hlt',hg,qJ,qN])
   refine qL (zE6 m.path zwB (by omega) (by decide)) rfl rfl (by simp) (by simp[qS,TV.er,AV.er,coC,zwB]) ?_
   cases hu:zuT m.path zwB
   ·rw[if_pos hu]at hpk
    (simp (maxSteps:=2000000) (disch:=first|omega|assumption) [zz])
    refine hE _ _ (by simp) ?_
    (simp (maxSteps:=2000000) (disch:=first|omega|assumption) [zz,Tryz.f61,hpk])
   rw[if_neg (by simp[hu])]at hpk
   by_cases he:m.path=q.path
   ·rw[if_pos he]at hpk
    (simp (maxSteps:=2000000) (disch:=first|omega|assumption) [zz,h0',hk1',hk1'',hgp,he,qN])
    (repeat with_reducible refine om ?_)
    refine hE _ _ (by simp) ?_
    (simp (maxSteps:=2000000) (disch:=first|omega|assumption) [zz,Tryz.f61,hpk])
   rw[if_neg he]at hpk
   cases hbl:Op.bytesLess m.path q.path
   ·rw[if_neg (by simp[hbl])]at hpk
    (simp (maxSteps:=2000000) (disch:=first|omega|assumption) [zz,h0',hk1',hk1'',hgp,he,qN,hbl])
    (repeat with_reducible refine om ?_)
    refine hN _ (k+1) ?_ ⟨by omega,by rw[hpn];exact hpk⟩ (by omega)
    apply Le.of<;>simp[qU,qG,qO,qH,qP,qK,qF,qI,qJ,qN,qJ]<;>try omega
   ·rw[if_pos hbl]at hpk
    (simp (maxSteps:=2000000) (disch:=first|omega|assumption) [zz,h0',hk1',hk1'',hgp,he,qN,hbl])
    (repeat with_reducible refine om ?_)
    refine hE _ _ (by simp) ?_
    (simp (maxSteps:=2000000) (disch:=first|omega|assumption) [zz,Tryz.f61,hpk])
 ·have hlt':¬(k:Int)<l.length:=by omega
  (simp (maxSteps:=2000000) (disch:=first|omega|assumption) [zz,hlt'])
  refine hE _ _ (by simp) ?_
  rw[List.drop_of_length_le (by omega)]at hpk
  have hz:∀o,zD4 o []=0:=fun o=>by cases o<;>rfl
  rw[hz]at hpk
  (simp (maxSteps:=2000000) (disch:=first|omega|assumption) [zz,Tryz.f61,hpk])
def TrP (t:zaP):Prop:=zGp t.reads∧zGo t.outs
set_option maxHeartbeats 4000000 in
theorem zDX (t:zaP) (ht:TrP t):PC Tryz.prog 31 [.av (qD Tryz.prog 46) (qK t)] (.av (.int .i64) (.i .i64 (zCW t))):=by
 refine zow Tryz.func31 cf0 fun imm0 w0=>?_
 by_cases h1:500<t.reads.length
 ·have h1':(500:Int)<t.reads.length:=by omega
  (simp (maxSteps:=2000000) (disch:=first|omega|assumption) [zz,qK,qF,qJ,h1',Tryz.f31,zCW,h1])
 have h1':¬(500:Int)<t.reads.length:=by omega
 by_cases h2:1000<t.outs.length
 ·have h2':(1000:Int)<t.outs.length:=by omega
  (simp (maxSteps:=2000000) (disch:=first|omega|assumption) [zz,qK,qF,qJ,h1',h2',Tryz.f31,zCW,h1,h2])
 have h2':¬(1000:Int)<t.outs.length:=by omega
 (simp (maxSteps:=2000000) (disch:=first|omega|assumption) [zz,qK,qF,qJ,h1',h2'])
 refine qL (zFI t.reads ht.1) rfl rfl (by simp) (by simp[qS,TV.er,AV.er,AV.ers_eq,Function.comp_def,qF]) ?_
 by_cases h3:zD1 [] t.reads=0
 ·(simp (maxSteps:=2000000) (disch:=first|omega|assumption) [zz,h3])
  refine qL (zFU t.outs ht.2) rfl rfl (by simp) (by simp[qS,TV.er,AV.er,AV.ers_eq,Function.comp_def,qJ]) ?_
  (simp (maxSteps:=2000000) (disch:=first|omega|assumption) [zz,Tryz.f31,zCW,h1,h2,h3])
 ·(simp (maxSteps:=2000000) (disch:=first|omega|assumption) [zz,h3,Tryz.f31,zCW,h1,h2])
end Go.Proofs.YtcgpcfcbienapaaGreatDoor
end
section
set_option maxRecDepth 100000
namespace Go.Proofs.YtcgpcfcbienapaaGreatDoor
open Go Go.Ab
open Classical
variable [Sel]
end Go.Proofs.YtcgpcfcbienapaaGreatDoor
end
section
set_option maxRecDepth 100000
namespace Go.Proofs.YtcgpcfcbienapaaGreatDoor
open Go Go.Ab
open Classical
variable [Sel]
def tkO (d:Nat):Nat→Tok
 | 0=>.full
 | k+1=>.own d (k+1)
@[simp] theorem zwP:qZ Tryz.prog 10=true:=by kernel_rfl
@[simp] theorem zxt:z8 Tryz.prog (.func 10)=false:=q9 zwP
def zFG (f:U1):Made:=⟨f.path,sha f.data⟩
def mdA (f:U1):AV:=.agg [.s f.path,KW (sha f.data)]
def zD7 (key:Dig) (o:zcy):zaP:=⟨key,o.reads,o.outs.map zFG⟩
noncomputable def ofT (key:Dig) (o:zcy):zaP:=if o.kind≠1 then tr0 else if zCW (zD7 key o)=0 then zD7 key o else tr0
noncomputable def ofE (key:Dig) (o:zcy):Int:=if o.kind≠1 then 19 else zCW (zD7 key o)
noncomputable def zES (key:Dig) (o:zcy):TV:=.tup [(qD Tryz.prog 46,qK (ofT key o)),(.int .i64,.i .i64 (ofE key o))]
def zFX (o:zcy):Prop:=o.reads.length≤1000∧o.outs.length≤1000000∧(∀r∈o.reads,r.path.length≤1000000)∧∀f∈o.outs,f.path.length≤1000000∧f.data.length≤1000000
theorem zFO {key:Dig} {o:zcy} (h:o.kind=1) (hc:zCW (zD7 key o)=0):zES key o=.tup [(qD Tryz.prog 46,.agg [KW key,.sl .no (AV.ers (o.reads.map qI)),.sl .no (AV.ers (o.outs.map (qN ∘ zFG)))]),(.int .i64,.i .i64 0)]:=by
 have h1:ofT key o=zD7 key o:=by simp[ofT,h,hc]
 have h2:ofE key o=0:=by simp[ofE,h,hc]
 simp only[zES,h1,h2]
 simp[zD7,qK,qF,qJ,AV.ers_eq,Function.comp_def]
theorem zFQ {key:Dig} {o:zcy} (h:o.kind=1) (hc:¬zCW (zD7 key o)=0):zES key o=.tup [(qD Tryz.prog 46,.agg [.agg (List.replicate 32 (.i .u8 0)),.sl .no [],.sl .no []]),(.int .i64,.i .i64 (zCW (zD7 key o)))]:=by
 have h1:ofT key o=tr0:=by simp[ofT,h,hc]
 have h2:ofE key o=zCW (zD7 key o):=by simp[ofE,h]
 simp only[zES,h1,h2]
 simp only[tr0,qK,qF,qJ,zCZ,List.map_nil]
abbrev zGk:Cfg:=⟨fun _=>false,fun n=>n==37⟩
theorem zFx (l:List U1) (k:Nat) (h:k<l.length):(l.map jZ)[k]?=some (jZ l[k]):=KB jZ l k h
set_option maxHeartbeats 4000000 in
theorem zGq (key:Dig) (o:zcy) (ho:zFX o) :
  PC Tryz.prog 10 [.av (qD Tryz.prog 35) (KW key),.av (qD Tryz.prog 41) (zI o)] (zES key o):=by
 obtain⟨hr1,ho1,hr2,ho2⟩:=ho
 obtain⟨kind,why,outs,reads⟩:=o
 simp only at hr1 ho1 hr2 ho2
 refine zow Tryz.func10 zGk fun imm0 w0=>?_
 by_cases hk:kind=1
 rotate_left
 ·(simp (maxSteps:=2000000) (disch:=first|omega|assumption) [zz,zI,hk,Tryz.f10,zES,ofT,ofE,tr0,qK,qF,qJ,zCZ])
 subst hk
 (simp (maxSteps:=2000000) (disch:=first|omega|assumption) [zz,zI])
 (repeat with_reducible refine om ?_)
 refine jC (zFA reads hr1) rfl rfl (by simp) (by simp[qS,TV.er]) ?_
 (simp (maxSteps:=2000000) (disch:=first|omega|assumption) [zz,qF,zU])
 (repeat with_reducible refine om ?_)
 refine AT.loop' (α:=Nat) (fun k=>St.of [(4,.loc 4 []),(5,.cst (.int .i64 0)),(6,.loc 6 []),(20,.av (.slice 71) (.sl .no (outs.map jZ))),(21,.av (.int .i64) (.i .i64 outs.length)),(22,.av (.int .i64) (.i .i64 k))] [(4,(qD Tryz.prog 46,.agg [KW zero32,.sl .full [],.sl .full []])),(6,(qD Tryz.prog 46,.agg [KW key,.sl .no (reads.map qI),.sl (tkO 36 k) ((outs.map mdA).take k)]))] (fun j=>if j=36 then k else 0) [])
  (fun k=>k≤outs.length) (fun k=>outs.length-k) 0 ?_ ?_ ?_
 ·apply Le.of<;>simp[qU,qG,qO,qH,qP,qK,qF,qI,qJ,qN,zCZ,tkO]<;>try omega
 ·simp
 rintro k hk KL hN hE
 refine qM (cf:=zGk) laid mixed _ _ _ (by kernel_rfl) ?_
 by_cases hlt:k<outs.length
 ·have hlt':(k:Int)<outs.length:=by omega
  have hg:=zFx outs k hlt
  have hd:=ho2 outs[k] (List.getElem_mem hlt)
  have hst:(outs.map mdA).take (k+1)=(outs.map mdA).take k++[mdA outs[k]]:=by
   rw[←List.map_take,List.take_succ_eq_append_getElem hlt,List.map_append,List.map_take];rfl
  have htl:((outs.map mdA).take k).length=k:=by rw[List.length_take,List.length_map];omega
  obtain⟨f,hf⟩:∃f,f=outs[k]:=⟨_,rfl⟩
  rw[←hf]at hg hd hst
  clear hf
  cases k with
  | zero =>
   have hlt':(0:Int)<outs.length:=by omega
   (simp (maxSteps:=2000000) (disch:=first|omega|assumption) [zz,hlt',hlt,hg,jZ,tkO])
   (repeat with_reducible refine om ?_)
   refine jC (znJ f.data (by omega)) rfl rfl (by simp) (by simp[qS,TV.er,AV.er,AV.ers,zfI]) ?_
   (simp (maxSteps:=2000000) (disch:=first|omega|assumption) [zz,wB])
   (repeat with_reducible refine om ?_)
   refine hN _ 1 ?_ (by omega) (by omega)
   apply Le.of<;>simp[qU,qG,qO,qH,qP,qK,qF,qI,qJ,qN,tkO,hst,mdA]<;>try omega
  | succ k =>
   have hlt':(k:Int)+1<outs.length:=by omega
   have hge:(0:Int)≤(k:Int)+1:=by omega
   (simp (maxSteps:=2000000) (disch:=first|omega|assumption) [zz,hlt',hlt,hg,jZ,tkO])
   (repeat with_reducible refine om ?_)
   refine jC (znJ f.data (by omega)) rfl rfl (by simp) (by simp[qS,TV.er,AV.er,AV.ers,zfI]) ?_
   (simp (maxSteps:=2000000) (disch:=first|omega|assumption) [zz,wB,htl])
   (repeat with_reducible refine om ?_)
   refine hN _ (k+2) ?_ (by omega) (by omega)
   apply Le.of<;>simp[qU,qG,qO,qH,qP,qK,qF,qI,qJ,qN,tkO,hst,mdA]<;>try omega
   all_goals (intro j;by_cases hj:j=36<;>simp[hj])
 ·have hkn:k=outs.length:=by omega
  have hlt':¬(k:Int)<outs.length:=by omega
  subst hkn
  (simp (maxSteps:=2000000) (disch:=first|omega|assumption) [zz,hlt'])
  refine hE _ _ (by simp) ?_
  clear hN hE
  have hmd:outs.map mdA=(outs.map zFG).map qN:=by rw[List.map_map];rfl
  have htake:(outs.map mdA).take outs.length=(outs.map zFG).map qN:=by rw[List.take_of_length_le (by simp),hmd]
  have htp:TrP (zD7 key ⟨1,why,outs,reads⟩):=by
   refine⟨⟨by simp only[zD7];omega,fun r hr=>Nat.le_trans (hr2 r hr) (by decide)⟩,by simp only[zD7,List.length_map];omega,fun r hr=>?_⟩
   obtain⟨f,hf,rfl⟩:=List.mem_map.1 hr
   exact Nat.le_trans (ho2 f hf).1 (by decide)
  (simp (maxSteps:=2000000) (disch:=first|omega|assumption) [zz,htake])
  refine qL (zDX _ htp) rfl rfl (by simp) (by simp[qS,TV.er,qK,zD7,AV.er,AV.ers,AV.ers_eq,qF,qJ,List.map_map,Function.comp_def]) ?_
  by_cases hc:zCW (zD7 key ⟨1,why,outs,reads⟩)=0
  ·have h1:=zFO (o:=⟨1,why,outs,reads⟩) rfl hc
   (simp (maxSteps:=2000000) (disch:=first|omega|assumption) [zz,hc,Tryz.f10,h1])
  ·have h1:=zFQ (o:=⟨1,why,outs,reads⟩) rfl hc
   (simp (maxSteps:=2000000) (disch:=first|omega|assumption) [zz,hc,Tryz.f10,h1])
end Go.Proofs.YtcgpcfcbienapaaGreatDoor
end
section
set_option maxRecDepth 100000
namespace Go.Proofs.YtcgpcfcbienapaaGreatDoor
open Go Go.Ab
open Classical
variable [Sel] [SelPow] [SelMax]
theorem zEQ {K:Dig} {o:zcy} (h1:o.reads.length≤500) (h2:zEF o.reads) (h3:zea (o.outs.map (·.path))) (h4:¬1000<o.outs.length) (h5:∀f∈o.outs,zuT f.path zwB=true):zCW (zD7 K o)=0:=by
 have e1:zD1 [] (zD7 K o).reads=0:=zDQ h2 (by simp)
 have e2:zD4 none (zD7 K o).outs=0:=zE2 (fun m hm=>by
  obtain⟨f,hf,rfl⟩:=List.mem_map.1 hm
  exact h5 f hf) (by
  have:(zD7 K o).outs.map (·.path)=o.outs.map (·.path):=by simp[zD7,zFG,Function.comp_def]
  rw[this];exact h3) (by simp)
 unfold zCW
 rw[if_neg (by simp only[zD7,List.length_map];omega),if_neg (by simp[e1]),e2]
theorem zFl {a:xW} (ha:zky a) {cs:List CmdV} (hcs:j7 a.tool=.ok cs) {ks:List KnV} (hk:∀k∈ks,k.data.length≤65536) (he:(yD (zEM a cs ks)).1.kind=1) :
  zEF (yD (zEM a cs ks)).1.reads∧zea ((yD (zEM a cs ks)).1.outs.map (·.path)):=by
 obtain⟨g1,g2,g3⟩:=zFa ha hcs hk
 obtain⟨kn',hK⟩:=zwK (zEc hk) 600 g3 g1
 have hn0:(ZR a.env a.outs (jI a) cs).reads=[]:=by
  obtain⟨m,h⟩:=zec a.env a.outs (jI a) cs (y8 hcs)
  exact h.reads
 refine⟨?_,?_⟩
 ·rw[zew g2]
  exact zEH (zEc hk) 600 g3 g1 (by rw[hn0];exact⟨by simp,by simp⟩)
 ·rcases hK.ends g2 with⟨_,e,hr,_⟩|⟨h1,e⟩
  ·rw[e];exact hr
  ·rw[e]at he;cases he
@[simp] theorem zoF:qZ Tryz.prog 13=true:=by kernel_rfl
@[simp] theorem zrE:z8 Tryz.prog (.func 13)=false:=q9 zoF
theorem zFe (ks:List KnV) (hn:ks.length≤1000000000) (p:Txt):PC Tryz.prog 13 [.av (.slice 33) (zL ks),.av .str (.s p)] (.av KnT (zH (zEq ks p))):=by
 obtain⟨V,hV⟩:∃V,V=zEq ks p:=⟨_,rfl⟩
 rw[←hV]
 refine zow Tryz.func13 cf0 fun imm0 w0=>?_
 simp (disch:=omega) [zz]
 refine AT.loop' (α:=Nat) (fun k=>St.of [(0,.av (.slice 33) (zL ks)),(1,.av .str (.s p)),(4,.loc 4 []),(5,.av (.int .i64) (.i .i64 k))] [(4,(KnT,zH ⟨[],false,[]⟩))] (fun _=>0) [])
  (fun k=>k≤ks.length∧∀i (h:i<ks.length),i<k→ks[i].path≠p) (fun k=>ks.length-k) 0 ?_ ?_ ?_
 ·apply Le.of<;>simp[qU,qG,zX,zH]<;>try omega
 ·exact⟨by omega,fun i h hi=>by omega⟩
 rintro k ⟨hk,hno⟩ KL hN hE
 refine qM (cf:=cf0) laid mixed _ _ _ (by kernel_rfl) ?_
 by_cases hlt:k<ks.length
 ·have hlt':(k:Int)<ks.length:=by omega
  have hg:=pZ ks k hlt
  by_cases e:ks[k].path=p
  ·have hf:=zfu hlt hno e
   have hv:V=ks[k]:=by rw[hV];unfold zEq;rw[hf];rfl
   obtain⟨x,hx⟩:∃x,x=ks[k]:=⟨_,rfl⟩
   rw[←hx]at hg e hv
   simp (disch:=omega) [zz,hlt',hlt,hg,zL,zH,e]
   refine hE _ _ (by simp) ?_
   simp (disch:=omega) [zz,Tryz.f13,hv,zH,e]
  ·simp (disch:=omega) [zz,hlt',hlt,hg,zL,zH,e]
   refine hN _ (k+1) ?_ ⟨by omega,fun i h hi=>?_⟩ (by omega)
   ·apply Le.of<;>simp[qU,qG,zX,zH,zL]<;>try omega
   ·rcases Nat.lt_or_ge i k with h1|h1
    ·exact hno i h h1
    ·have:i=k:=by omega
     subst this;exact e
 ·have hlt':¬(k:Int)<ks.length:=by omega
  have hv:V=⟨p,false,[]⟩:=by
   rw[hV];unfold zEq
   have:zQ ks p=none:=by
    unfold zQ
    rw[List.find?_eq_none]
    intro x hx
    obtain⟨i,hi,rfl⟩:=List.mem_iff_getElem.1 hx
    simpa using hno i hi (by omega)
   rw[this];rfl
  simp (disch:=omega) [zz,hlt',zL]
  refine hE _ _ (by simp) ?_
  simp (disch:=omega) [zz,Tryz.f13,hv,zH]
end Go.Proofs.YtcgpcfcbienapaaGreatDoor
end
