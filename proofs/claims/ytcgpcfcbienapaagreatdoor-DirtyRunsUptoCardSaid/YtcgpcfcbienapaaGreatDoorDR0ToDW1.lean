/- What isn't there has no bytes that play a part: plain. No condition beyond each theorem's own. -/
import Derived.Test.YtcgpcfcbienapaaGreatDoorBE1aToAN0
import Derived.Test.YtcgpcfcbienapaaGreatDoorBF0
import Derived.Test.YtcgpcfcbienapaaGreatDoorB0
import Derived.Test.YtcgpcfcbienapaaGreatDoorL0
import Derived.Test.YtcgpcfcbienapaaGreatDoorK11ToGB3
import Derived.Test.YtcgpcfcbienapaaGreatDoorK20ToBX1
import Derived.Test.YtcgpcfcbienapaaGreatDoorP27b
set_option linter.unusedSimpArgs false
set_option linter.unusedVariables false
set_option linter.unusedSectionVars false
section
set_option maxRecDepth 100000
namespace Go.Proofs.YtcgpcfcbienapaaGreatDoor
open Go Go.Ab
open Classical
variable [Sel] [SelPow] [SelMax]
def nkV (k:KnV):KnV:=if k.is=true then k else⟨k.path,false,[]⟩
theorem zIE (k:KnV):(nkV k).path=k.path:=by unfold nkV;split<;>rfl
theorem zIU (k:KnV):(nkV k).is=k.is:=by unfold nkV;split<;>simp_all
theorem zID (k:KnV) (h:k.is=true):(nkV k).data=k.data:=by unfold nkV;rw[if_pos h]
theorem zIO (k:KnV):J9 (nkV k)=J9 k:=by
 unfold nkV
 split
 ·rfl
 ·rename_i h;simp[J9,h]
theorem zIH (p:Txt):∀kn:List KnV,zQ (kn.map nkV) p=(zQ kn p).map nkV
 | []=>rfl
 | k::kn=>by
  have ih:=zIH p kn
  unfold zQ at ih ⊢
  rw[List.map_cons,List.find?_cons,List.find?_cons,zIE]
  split
  ·rfl
  ·exact ih
theorem zIK (kn:List KnV) (p:Txt) (s:StV):y7 (kn.map nkV) p s=((y7 kn p s).1,nkV (y7 kn p s).2):=by
 unfold y7
 rw[zIH]
 split
 ·rfl
 ·cases zQ kn p<;>rfl
theorem zIJ {r1 r2:Txt→StV→List Txt→StV × List Txt} (h:∀p s d,r1 p s d=r2 p s d) (w:Txt):∀(l:List Txt) (s:StV) (d:List Txt),ZS r1 w l s d=ZS r2 w l s d:=by
 have:r1=r2:=funext fun p=>funext fun s=>funext fun d=>h p s d
 rw[this];exact fun _ _ _=>rfl
theorem zIF (kn:List KnV) (w:Txt):∀(n:Nat) (p:Txt) (s:StV) (d:List Txt),zdm (kn.map nkV) w n p s d=zdm kn w n p s d
 | 0,_,_,_=>rfl
 | n+1,p,s,d=>by
  rw[zdm,zdm]
  simp only[zIK,zIU]
  split
  ·rfl
  split
  ·rfl
  ·rename_i h1 h2
   rw[zID _ (by simpa using h2)]
   exact zIJ (fun p s d=>zIF kn w n p s d) w _ _ _
theorem zIW (env:List (Txt × Txt)) (kn:List KnV) (line:Txt) (ws:List Txt) (s:StV):xT env (kn.map nkV) line ws s=xT env kn line ws s:=by
 unfold xT
 simp only[zIK,zIF,zIU]
 split
 ·split
  ·rfl
  split
  ·rename_i h;rw[zID _ h]
  ·rfl
 ·rfl
theorem zIB (env:List (Txt × Txt)) (kn:List KnV):∀(l:List Txt) (s:StV),Y9 env (kn.map nkV) l s=Y9 env kn l s
 | [],_=>rfl
 | x::l,s=>by
  rw[Y9,Y9,zIW,zIB env kn l,zIB env kn l]
section
variable {env:List (Txt × Txt)} {cs:List CmdV} {outs:List Txt} {may:Txt→Bool} {lines:List Txt}
theorem Z4.det2 (hl:zh5 env cs lines) {kn kn':List KnV} {b b':zCU} (h:Z4 env cs outs may kn b) (h':Z4 env cs outs may kn' b') (hf:Y9 env kn lines st0=Y9 env kn' lines st0) (hr:kn.map J9=kn'.map J9) :
  b.over=b'.over∧yD b=yD b'∧(b.over=false→b.asks=b'.asks):=by
 obtain⟨wr,hs⟩:=h.s
 obtain⟨wr',hs'⟩:=h'.s
 obtain⟨F,W⟩:=hs.far hl
 obtain⟨F',W'⟩:=hs'.far hl
 rw[←hf]at F' W'
 have hre:b.reads=b'.reads:=by rw[hs.reads,hs'.reads,hr]
 by_cases hR:zfw outs (Y9 env kn lines st0).wrote
 ·obtain⟨a1,a2,a3⟩:=F.det hR
  obtain⟨c1,c2,c3⟩:=F'.det hR
  have hw:b.wrote=b'.wrote:=by
   rcases W with W|W
   ·rcases W' with W'|W'
    ·rw[W.2,W'.2]
    ·exact absurd hR W'.2.2
   ·exact absurd hR W.2.2
  have ho:b.over=b'.over:=a1.trans c1.symm
  refine⟨ho,?_,fun h=>(a3 h).trans (c3 (ho▸h)).symm⟩
  unfold yD ZH
  rw[ho,a2.trans c2.symm,hw,hre]
 ·rcases W with W|⟨W1,W2,_⟩
  ·exact absurd W.1 hR
  rcases W' with W'|⟨W1',W2',_⟩
  ·exact absurd W'.1 hR
  refine⟨W1.trans W1'.symm,?_,fun h=>by rw[W1]at h;cases h⟩
  unfold yD
  rw[W1,W1',W2,W2',hre];rfl
def nkF (f:Txt→Option KnV):Txt→Option KnV:=fun p=>(f p).map nkV
theorem zIr {f:Txt→Option KnV} (hf:Ans f):Ans (nkF f):=fun p k hk=>by
 unfold nkF at hk
 cases e:f p with
 | none=>rw[e]at hk;cases hk
 | some x =>
  rw[e]at hk
  rw[←Option.some.inj hk]
  obtain⟨h1,h2⟩:=hf p x e
  refine⟨by rw[zIE];exact h1,?_⟩
  unfold nkV
  split
  ·exact h2
  ·simp
theorem zIS (hl:zh5 env cs lines) {f:Txt→Option KnV} (hf:Ans f):∀(n:Nat) {kn:List KnV} {b b' c:zCU},Z4 env cs outs may kn b→Z4 env cs outs may (kn.map nkV) c→goF f n b=some b'→∃c',goF (nkF f) n c=some c'∧yD c'=yD b'∧c'.over=b'.over
 | 0,_,_,_,_,_,_,h=>by cases h
 | n+1,kn,b,b',c,hb,hc,h=>by
  obtain⟨d1,d2,d3⟩:=hb.det2 hl hc (zIB env kn lines _).symm (by rw[List.map_map];exact List.map_congr_left fun k _=>(zIO k).symm)
  rw[goF]at h ⊢
  by_cases ho:b.over=true
  ·rw[if_pos ho]at h;cases h
   rw[if_pos (d1▸ho)]
   exact⟨c,rfl,d2.symm,d1.symm⟩
  rw[if_neg ho]at h
  have ho':b.over=false:=by simpa using ho
  rw[if_neg (by rw[←d1];exact ho),←d3 ho']
  unfold nkF
  cases hk:f b.asks with
  | none =>
   rw[hk]at h;cases h
   exact⟨c,rfl,d2.symm,d1.symm⟩
  | some k =>
   rw[hk]at h
   simp only[Option.map_some]at h ⊢
   obtain⟨h1,h2⟩:=hf _ _ hk
   have g1:=(hb.give k ho' h1 (fun _=>h2)).2
   obtain⟨e1,e2⟩:=zIr hf b.asks (nkV k) (by unfold nkF;rw[hk];rfl)
   have g2:=(hc.give (nkV k) (d1▸ho') (by rw[e1,d3 ho']) (fun _=>e2)).2
   rw[show kn.map nkV++[nkV k]=(kn++[k]).map nkV by simp]at g2
   exact zIS hl hf n g1 g2 h
end
end Go.Proofs.YtcgpcfcbienapaaGreatDoor
end
section
set_option maxRecDepth 100000
namespace Go.Proofs.YtcgpcfcbienapaaGreatDoor
open Go Go.Ab
open Classical
variable [Sel] [SelPow] [SelMax]
def zIl (was now:List KnV):Prop:=∀k∈was,∀l∈now,k.data≠l.data→sha k.data≠sha l.data
theorem zJ2:∀ {x y:KnV},x.path=y.path→x.is=y.is→x.data=y.data→x=y
 | ⟨_,_,_⟩,⟨_,_,_⟩,h1,h2,h3=>by simp only at h1 h2 h3;subst h1;subst h2;subst h3;rfl
theorem zIG {ks:List KnV} {p:Txt} (h:(zEq ks p).is=true):zEq ks p∈ks:=by
 unfold zEq at h ⊢
 cases hf:zQ ks p with
 | none=>rw[hf]at h;cases h
 | some k=>exact(KP hf).1
theorem zJ3 {was now:List KnV} (hc:zIl was now) {p:Txt} (h:J9 (zEq was p)=J9 (zEq now p)):nkV (zEq was p)=nkV (zEq now p):=by
 have h1:=zFn was p
 have h2:=zFn now p
 have hi:(zEq was p).is=(zEq now p).is:=congrArg Read.is h
 cases hw:(zEq was p).is with
 | false =>
  rw[hw]at hi
  unfold nkV
  rw[if_neg (by rw[hw];decide),if_neg (by rw[←hi];decide),h1,h2]
 | true =>
  rw[hw]at hi
  have hs:sha (zEq was p).data=sha (zEq now p).data:=by
   have:=congrArg Read.sum h
   simpa[J9,hw,←hi]using this
  have hd:(zEq was p).data=(zEq now p).data:=Classical.byContradiction fun hne=>hc _ (zIG hw) _ (zIG hi.symm) hne hs
  unfold nkV
  rw[if_pos hw,if_pos hi.symm]
  exact zJ2 (h1.trans h2.symm) (hw.trans hi) hd
section
variable {a:xW} (ha:zky a) {cs:List CmdV} (hcs:j7 a.tool=.ok cs) {ks was now:List KnV}
include ha hcs
theorem zIz (hk:∀k∈ks,k.data.length≤65536):∃c,goF (nkF (zFd ks)) 600 (ZR a.env a.outs (jI a) cs)=some c∧c.over=true∧yD c=yD (zEM a cs ks):=by
 obtain⟨g1,g2,g3⟩:=zFa ha hcs hk
 obtain⟨_,i0,hi0⟩:=XU hcs
 obtain⟨c,h1,h2,h3⟩:=zIS (lines:=z7 a.tool) ⟨⟨i0,hi0⟩⟩ (zEc hk) 600 g3 g3 g1
 exact⟨c,h1,h3.trans g2,h2⟩
theorem zIt (hk:∀k∈ks,k.data.length≤65536):∀r∈(yD (zEM a cs ks)).1.reads,J9 (zEq ks r.path)=r:=by
 obtain⟨g1,g2,g3⟩:=zFa ha hcs hk
 have hn0:(ZR a.env a.outs (jI a) cs).reads=[]:=by
  obtain⟨m,h⟩:=zec a.env a.outs (jI a) cs (y8 hcs)
  exact h.reads
 have ht:=zya (zEc hk) 600 g1 (by rw[hn0];simp)
 rw[zew g2]
 intro r hr
 obtain⟨k,e1,e2⟩:=ht r hr
 rw[Option.some.inj e1];exact e2
theorem zIN (hc:zIl was now) (hw:∀k∈was,k.data.length≤65536) (hn:∀k∈now,k.data.length≤65536) (i:Nat) (hi:i<(yD (zEM a cs was)).1.reads.length)
  (hs:∀j (hj:j<i),J9 (zEq now ((yD (zEM a cs was)).1.reads[j]'(by omega)).path)=(yD (zEM a cs was)).1.reads[j]'(by omega)) :
  ∃h:i<(yD (zEM a cs now)).1.reads.length,(yD (zEM a cs now)).1.reads[i].path=(yD (zEM a cs was)).1.reads[i].path:=by
 have ht:=zIt ha hcs hw
 obtain⟨c,c1,c2,c3⟩:=zIz ha hcs hw
 obtain⟨d,d1,d2,d3⟩:=zIz ha hcs hn
 have hn0:(ZR a.env a.outs (jI a) cs).reads=[]:=by
  obtain⟨m,h⟩:=zec a.env a.outs (jI a) cs (y8 hcs)
  exact h.reads
 rw[←c3,zew c2]at ht
 simp only[←c3,←d3,zew c2,zew d2]at hi hs ⊢
 refine zvx (zIr (zEc hw)) (zIr (zEc hn)) (fun p=>by simp[nkF,zFd]) (fun p=>by simp[nkF,zFd]) 600 600 c1 d1 i hi (by rw[hn0];simp) fun j hj _=>?_
 have h1:=hs j hj
 have h2:=ht _ (List.getElem_mem (by omega:j<c.reads.length))
 simp only[nkF,zFd,Option.map_some]
 rw[zJ3 hc (h2.trans h1.symm)]
theorem zIR (hc:zIl was now) (hw:∀k∈was,k.data.length≤65536) (hn:∀k∈now,k.data.length≤65536)
  (hs:∀r∈(yD (zEM a cs was)).1.reads,J9 (zEq now r.path)=r):yD (zEM a cs now)=yD (zEM a cs was):=by
 have ht:=zIt ha hcs hw
 obtain⟨c,c1,c2,c3⟩:=zIz ha hcs hw
 obtain⟨d,d1,d2,d3⟩:=zIz ha hcs hn
 simp only[←c3,zew c2]at hs ht
 have:=zvD (g:=nkF (zFd now)) (zIr (zEc hw)) 600 c1 (.inl c2) (by
  rintro p ⟨r,hr,rfl⟩
  simp only[nkF,zFd,Option.map_some]
  rw[zJ3 hc ((ht r hr).trans (hs r hr).symm)])
 rw[d1]at this
 rw[←d3,Option.some.inj this,c3]
end
end Go.Proofs.YtcgpcfcbienapaaGreatDoor
end
section
set_option maxRecDepth 100000
namespace Go.Proofs.YtcgpcfcbienapaaGreatDoor
open Go Go.Ab
open Classical
variable [Sel]
@[simp] theorem zwW:qZ Tryz.prog 32=true:=by kernel_rfl
@[simp] theorem zxv:z8 Tryz.prog (.func 32)=false:=q9 zwW
@[simp] theorem zx5:qZ Tryz.prog 33=true:=by kernel_rfl
@[simp] theorem zxm:z8 Tryz.prog (.func 33)=false:=q9 zx5
@[simp] theorem zAx:qZ Tryz.prog 11=true:=by kernel_rfl
@[simp] theorem zBn:z8 Tryz.prog (.func 11)=false:=q9 zAx
@[simp] theorem zx4:qZ Tryz.prog 34=true:=by kernel_rfl
@[simp] theorem zxf:z8 Tryz.prog (.func 34)=false:=q9 zx4
@[simp] theorem zo2:qZ Tryz.prog 62=true:=by kernel_rfl
@[simp] theorem zs3:z8 Tryz.prog (.func 62)=false:=q9 zo2
theorem zII {α:Type} {p:α→Bool} {xs:List α}:0≤J7 p xs↔∃x∈xs,p x=true:=by
 unfold J7
 cases h:xs.findIdx? p with
 | none =>
  rw[List.findIdx?_eq_none_iff]at h
  simp only[Int.reduceNeg,Int.reduceLE,false_iff,not_exists]
  rintro x ⟨hx,h1⟩;rw[h x hx]at h1;cases h1
 | some i =>
  rw[List.findIdx?_eq_some_iff_getElem]at h
  obtain⟨hl,hp,_⟩:=h
  simp only[Int.natCast_nonneg,true_iff]
  exact⟨_,List.getElem_mem hl,hp⟩
def zIg (known:List Read):List Read→Option (Option (List UInt8))
 | []=>none
 | r::rs=>match known.find? (fun x=>decide (x.path=r.path))with
  | none=>some (some r.path)
  | some x=>if x=r then zIg known rs else some none
def zId (known:List Read) (gone:List Dig):Nat→List zaP→znW
 | _,[]=>⟨3,[],0⟩
 | i,t::ts=>match zIg known t.reads with
  | some (some p)=>⟨1,p,0⟩
  | some none=>zId known gone (i+1) ts
  | none=>if ∃m∈t.outs,m.sum∈gone then zId known gone (i+1) ts else⟨2,[],i⟩
theorem zIX (xs:List Dig) (d:Dig) (hlen:xs.length≤9223372036854775807) :
  PC Tryz.prog 62 [.av (.slice 35) (qO xs),.av (qD Tryz.prog 35) (KW d)] (.av (.int .i64) (.i .i64 (J7 (fun x=>decide (d=x)) xs))):=by
 refine zow Tryz.func62 cf0 fun imm0 w0=>?_
 simp (disch:=omega) [zz,qO]
 refine AT.loop' (α:=Nat) (fun k=>St.of [(0,.av (.slice 35) (qO xs)),(3,.loc 3 []),(7,.av (.int .i64) (.i .i64 xs.length)),(8,.av (.int .i64) (.i .i64 k))] [(3,(qD Tryz.prog 35,KW d))] (fun _=>0) [])
  (fun k=>k≤xs.length∧∀x∈xs.take k,decide (d=x)=false) (fun k=>xs.length-k) 0 ?_ ?_ ?_
 ·apply Le.of<;>simp[qU,qG,zX,qO]<;>try omega
 ·simp
 rintro k ⟨hk,hpk⟩ KL hN hE
 refine qM (cf:=cf0) laid mixed _ _ _ (by kernel_rfl) ?_
 by_cases hlt:k<xs.length
 ·have hlt':(k:Int)<xs.length:=by omega
  have hg:(xs.map KW)[k]?=some (KW xs[k]):=by rw[List.getElem?_map,List.getElem?_eq_getElem hlt];rfl
  by_cases he:d=xs[k]
  ·simp (disch:=omega) [zz,hlt',hlt,hg,qO,ziF,he]
   refine hE _ _ (by simp) ?_
   simp (disch:=omega) [zz,Tryz.f62,uL hlt hpk (by simp[he])]
  ·simp (disch:=omega) [zz,hlt',hlt,hg,qO,ziF,he]
   refine hN _ (k+1) ?_ ⟨by omega,by rw[Z2 hlt];exact⟨hpk,by simpa using he⟩⟩ (by omega)
   apply Le.of<;>simp[qU,qG,zX,qO]<;>try omega
 ·have hlt':¬(k:Int)<xs.length:=by omega
  rw[List.take_of_length_le (by omega)]at hpk
  simp (disch:=omega) [zz,hlt',qO]
  refine hE _ _ (by simp) ?_
  simp (disch:=omega) [zz,Tryz.f62,x9 hpk]
theorem zJ5 (xs:List Dig) (d:Dig) (hlen:xs.length≤9223372036854775807) :
  PC Tryz.prog 34 [.av (.slice 35) (qO xs),.av (qD Tryz.prog 35) (KW d)] (.av .bool (.b (decide (d∈xs)))):=by
 have hx:=zIX xs d hlen
 have hi:=zII (p:=fun x=>decide (d=x)) (xs:=xs)
 obtain⟨n,hn⟩:∃n,n=J7 (fun x=>decide (d=x)) xs:=⟨_,rfl⟩
 rw[←hn]at hx hi
 have hd:d∈xs↔0≤n:=by rw[hi];simp
 refine zow Tryz.func34 cf0 fun imm0 w0=>?_
 simp (disch:=omega) [zz]
 refine zcv hx ?_
 by_cases h0:0≤n
 ·have hyes:d∈xs:=hd.2 h0
  simp (disch:=omega) [zz,h0,Tryz.f34,hyes]
 ·have hno:¬d∈xs:=fun h=>h0 (hd.1 h)
  simp (disch:=omega) [zz,h0,Tryz.f34,hno]
theorem zIT (k r:Read) (b:Nat):q7 Tryz.prog 33 [.av (qD Tryz.prog 54) (qI k),.av .ptr (.ptr b (qD Tryz.prog 54) [])] [(b,.var (qD Tryz.prog 54) (qI r))]
  fun r' H'=>r'=.av .bool (.b (decide (k.path=r.path)))∧H'=[(b,.var (qD Tryz.prog 54) (qI r))]:=by
 refine zov Tryz.func33 cf0 fun imm0 w0=>?_
 simp (disch:=omega) [zz,qI,Tryz.f33]
theorem zIC (known:List Read) (hk:known.length≤9223372036854775807) (r:Read) (b:Nat) :
  q7 Tryz.prog 32 [.av (.slice 54) (qF known),.av .func (.fn 33 [.ptr b (qD Tryz.prog 54) []])] [(b,.var (qD Tryz.prog 54) (qI r))]
   fun r' H'=>r'=.av (.int .i64) (.i .i64 (J7 (fun x=>decide (x.path=r.path)) known))∧H'=[(b,.var (qD Tryz.prog 54) (qI r))]:=by
 refine zov Tryz.func32 cf0 fun imm0 w0=>?_
 simp (disch:=omega) [zz,qF]
 refine AT.loop' (α:=Nat) (fun k=>St.of [(0,.av (.slice 54) (.sl .no (known.map qI))),(1,.av .func (.fn 33 [.ptr b (qD Tryz.prog 54) []])),(7,.av (.int .i64) (.i .i64 known.length)),(8,.av (.int .i64) (.i .i64 k))] [] (fun _=>0) [(b,.var (qD Tryz.prog 54) (qI r))])
  (fun k=>k≤known.length∧∀x∈known.take k,decide (x.path=r.path)=false) (fun k=>known.length-k) 0 ?_ ?_ ?_
 ·apply Le.of<;>simp[qU,qG,qO,qH,qP,qK,qF,qI,qJ,qN,zX]<;>try omega
 ·simp
 rintro k ⟨hk',hpk⟩ KL hN hE
 refine qM (cf:=cf0) laid mixed _ _ _ (by kernel_rfl) ?_
 by_cases hlt:k<known.length
 ·have hlt':(k:Int)<known.length:=by omega
  simp (disch:=omega) [zz,hlt']
  refine jP (R:=fun r' H'=>r'=.av .bool (.b (decide (known[k].path=r.path)))∧H'=[(b,.var (qD Tryz.prog 54) (qI r))]) rfl (by simp[qQ]) (by simp) ?_ ?_
  ·have:=zIT known[k] r b
   simpa[TV.er,AV.er,qF,List.getElem?_eq_getElem hlt,q8.er_cons,q8.er_nil,HObj.er]using this
  rintro r' H' ⟨rfl,rfl⟩
  by_cases hp:known[k].path=r.path
  ·simp (disch:=omega) [zz,hp]
   refine hE _ _ (by simp) ?_
   simp (disch:=omega) [zz,Tryz.f32,uL hlt hpk (by simpa using hp)]
  ·simp (disch:=omega) [zz,hp]
   refine hN _ (k+1) ?_ ⟨by omega,by rw[Z2 hlt];exact⟨hpk,by simpa using hp⟩⟩ (by omega)
   apply Le.of<;>simp[qU,qG,qO,qH,qP,qK,qF,qI,qJ,qN,zX]<;>try omega
 ·have hlt':¬(k:Int)<known.length:=by omega
  simp (disch:=omega) [zz,hlt']
  refine hE _ _ (by simp) ?_
  rw[List.take_of_length_le (by omega)]at hpk
  simp (disch:=omega) [zz,Tryz.f32,x9 hpk]
abbrev zIZ:Cfg:=⟨fun k=>k==10,fun _=>false⟩
set_option maxHeartbeats 8000000 in
theorem zIh (l:List zaP) (known:List Read) (gone:List Dig) (hl:l.length≤9223372036854775807) (hk':known.length≤9223372036854775807) (hg:gone.length≤9223372036854775807)
  (ht:∀t∈l,t.reads.length≤9223372036854775807∧t.outs.length≤9223372036854775807) :
  PC Tryz.prog 11 [.av (.slice 46) (qH l),.av (.slice 54) (qF known),.av (.slice 35) (qO gone)] (.av (qD Tryz.prog 50) (qP (zId known gone 0 l))):=by
 obtain⟨V,hV⟩:∃V,V=zId known gone 0 l:=⟨_,rfl⟩
 rw[←hV]
 refine zow Tryz.func11 zIZ fun imm0 w0=>?_
 simp (disch:=omega) [zz,qH]
 refine AT.loop' (α:=Nat) (fun k=>St.of [(1,.av (.slice 54) (qF known)),(2,.av (.slice 35) (qO gone)),(6,.loc 6 []),(14,.av (.slice 46) (qH l)),(15,.av (.int .i64) (.i .i64 l.length)),(16,.av (.int .i64) (.i .i64 k))] [(6,(qD Tryz.prog 50,qP ⟨0,[],0⟩))] (fun _=>0) [])
  (fun k=>k≤l.length∧V=zId known gone k (l.drop k)) (fun k=>l.length-k) 0 ?_ ?_ ?_
 ·apply Le.of<;>simp[qU,qG,zX,qH,qP]<;>try omega
 ·exact⟨by omega,by simpa using hV⟩
 clear hV
 rintro k ⟨hk,hpk⟩ KL hN hE
 refine qM (cf:=zIZ) laid mixed _ _ _ (by kernel_rfl) ?_
 by_cases hlt:k<l.length
 rotate_left
 ·have hlt':¬(k:Int)<l.length:=by omega
  rw[List.drop_of_length_le (by omega)]at hpk
  have hv:V=⟨3,[],0⟩:=hpk
  simp (disch:=omega) [zz,hlt']
  refine hE _ _ (by simp) ?_
  simp (disch:=omega) [zz,Tryz.f11,qP,hv]
 have hlt':(k:Int)<l.length:=by omega
 obtain⟨ht1,ht2⟩:=ht _ (List.getElem_mem hlt)
 have hdr:l.drop k=l[k]::l.drop (k+1):=(List.getElem_cons_drop hlt).symm
 have hgt:(l.map qK)[k]?=some (qK l[k]):=by rw[List.getElem?_map,List.getElem?_eq_getElem hlt];rfl
 obtain⟨tr,htr⟩:∃tr,tr=l[k]:=⟨_,rfl⟩
 rw[←htr]at ht1 ht2 hdr hgt
 rw[hdr,zId]at hpk
 simp (disch:=omega) [zz,hlt',hlt,hgt,qH,qK,qF]
 refine AT.loop' (α:=Nat) (fun j=>St.of [(1,.av (.slice 54) (qF known)),(2,.av (.slice 35) (qO gone)),(6,.loc 6 []),(7,.av (.int .i64) (.i .i64 k)),(8,.loc 8 []),(14,.av (.slice 46) (qH l)),(15,.av (.int .i64) (.i .i64 l.length)),(16,.av (.int .i64) (.i .i64 k)),
   (22,.av (.slice 54) (qF tr.reads)),(23,.av (.int .i64) (.i .i64 tr.reads.length)),(24,.av (.int .i64) (.i .i64 j))] [(6,(qD Tryz.prog 50,qP ⟨0,[],0⟩)),(8,(qD Tryz.prog 46,qK tr))] (fun _=>0) [])
  (fun j=>j≤tr.reads.length∧zIg known tr.reads=zIg known (tr.reads.drop j)) (fun j=>tr.reads.length-j) 0 ?_ ?_ ?_
 ·apply Le.of<;>simp[qU,qG,zX,qH,qP,qK,qF]<;>try omega
 ·simp
 rintro j ⟨hj,hpj⟩ KL2 hN2 hE2
 refine qM (cf:=zIZ) laid mixed _ _ _ (by kernel_rfl) ?_
 by_cases hjt:j<tr.reads.length
 ·have hjt':(j:Int)<tr.reads.length:=by omega
  have hdr2:tr.reads.drop j=tr.reads[j]::tr.reads.drop (j+1):=(List.getElem_cons_drop hjt).symm
  have hgr:(tr.reads.map qI)[j]?=some (qI tr.reads[j]):=by rw[List.getElem?_map,List.getElem?_eq_getElem hjt];rfl
  obtain⟨r,hrr⟩:∃r,r=tr.reads[j]:=⟨_,rfl⟩
  rw[←hrr]at hdr2 hgr
  rw[hdr2,zIg]at hpj
  simp (disch:=omega) [zz,hjt',hjt,hgr,qF,←hrr]
  intro b
  refine jP (R:=fun r' H'=>r'=.av (.int .i64) (.i .i64 (J7 (fun x=>decide (x.path=r.path)) known))∧H'=[(b,.var (qD Tryz.prog 54) (qI r))]) rfl (by simp[qQ]) (by simp) ?_ ?_
  ·have:=zIC known hk' r b
   simpa[TV.er,AV.er,AV.ers,AV.ers_eq,qF,q8.er_cons,q8.er_nil,HObj.er,Function.comp_def]using this
  rintro r' H' ⟨rfl,rfl⟩
  rcases ze8 (fun x:Read=>decide (x.path=r.path)) known with⟨e1,e2⟩|⟨i,hi,e1,e2⟩
  ·rw[e2]at hpj
   rw[hpj]at hpk
   simp only at hpk
   simp (disch:=omega) [zz,e1,qI]
   refine hE2 _ _ (by simp) ?_
   refine hE _ _ (by simp) ?_
   simp (disch:=omega) [zz,Tryz.f11,qP,hpk]
  ·have hi0:¬(i:Int)<0:=by omega
   have hil':(i:Int)<known.length:=by omega
   have hgk:(known.map qI)[i]?=some (qI known[i]):=by rw[List.getElem?_map,List.getElem?_eq_getElem hi];rfl
   rw[e2]at hpj
   simp only at hpj
   by_cases hxr:known[i]=r
   ·rw[if_pos hxr]at hpj
    simp (disch:=omega) [zz,e1,hi0,hi,hil',hgk,hxr,qF,GV]
    (repeat with_reducible refine om ?_)
    refine hN2 _ (j+1) ?_ ⟨by omega,hpj⟩ (by omega)
    apply Le.of<;>simp[qU,qG,zX,qH,qP,qK,qF]<;>try omega
   ·rw[if_neg hxr]at hpj
    rw[hpj]at hpk
    simp only at hpk
    simp (disch:=omega) [zz,e1,hi0,hi,hil',hgk,hxr,qF,GV]
    (repeat with_reducible refine om ?_)
    refine hE2 _ _ (by simp) ?_
    simp (disch:=omega) [zz]
    refine hN _ (k+1) ?_ ⟨by omega,hpk⟩ (by omega)
    apply Le.of<;>simp[qU,qG,zX,qH,qP,qK,qF]<;>try omega
 have hjt':¬(j:Int)<tr.reads.length:=by omega
 have hch:zIg known tr.reads=none:=by rw[hpj,List.drop_of_length_le (by omega)];rfl
 rw[hch]at hpk
 simp only at hpk
 simp (disch:=omega) [zz,hjt']
 refine hE2 _ _ (by simp) ?_
 clear hN2 hE2
 simp (disch:=omega) [zz,qK,qJ]
 refine AT.loop' (α:=Nat) (fun m=>St.of [(1,.av (.slice 54) (qF known)),(2,.av (.slice 35) (qO gone)),(6,.loc 6 []),(7,.av (.int .i64) (.i .i64 k)),(14,.av (.slice 46) (qH l)),(15,.av (.int .i64) (.i .i64 l.length)),(16,.av (.int .i64) (.i .i64 k)),
   (46,.av (.slice 80) (qJ tr.outs)),(47,.av (.int .i64) (.i .i64 tr.outs.length)),(48,.av (.int .i64) (.i .i64 m))] [(6,(qD Tryz.prog 50,qP ⟨0,[],0⟩))] (fun _=>0) [])
  (fun m=>m≤tr.outs.length∧∀x∈tr.outs.take m,¬x.sum∈gone) (fun m=>tr.outs.length-m) 0 ?_ ?_ ?_
 ·apply Le.of<;>simp[qU,qG,zX,qH,qP,qJ]<;>try omega
 ·simp
 rintro m ⟨hm,hpm⟩ KL3 hN3 hE3
 refine qM (cf:=zIZ) laid mixed _ _ _ (by kernel_rfl) ?_
 by_cases hmt:m<tr.outs.length
 ·have hmt':(m:Int)<tr.outs.length:=by omega
  have hgm:(tr.outs.map qN)[m]?=some (qN tr.outs[m]):=by rw[List.getElem?_map,List.getElem?_eq_getElem hmt];rfl
  have hmm:=List.getElem_mem hmt
  have hst:=List.take_succ_eq_append_getElem hmt
  obtain⟨o,ho⟩:∃o,o=tr.outs[m]:=⟨_,rfl⟩
  rw[←ho]at hgm hmm hst
  simp (disch:=omega) [zz,hmt',hmt,hgm,qJ,qN]
  refine zcv (zJ5 gone o.sum hg) ?_
  by_cases hog:o.sum∈gone
  ·rw[if_pos ⟨o,hmm,hog⟩]at hpk
   simp (disch:=omega) [zz,hog]
   refine hE3 _ _ (by simp) ?_
   simp (disch:=omega) [zz]
   refine hN _ (k+1) ?_ ⟨by omega,hpk⟩ (by omega)
   apply Le.of<;>simp[qU,qG,zX,qH,qP]<;>try omega
  ·simp (disch:=omega) [zz,hog]
   refine hN3 _ (m+1) ?_ ⟨by omega,fun x hx=>?_⟩ (by omega)
   ·apply Le.of<;>simp[qU,qG,zX,qH,qP,qJ]<;>try omega
   ·rw[hst]at hx
    rcases List.mem_append.1 hx with hx|hx
    ·exact hpm x hx
    ·rw[List.mem_singleton.1 hx];exact hog
 ·have hmt':¬(m:Int)<tr.outs.length:=by omega
  rw[List.take_of_length_le (by omega)]at hpm
  rw[if_neg fun⟨x,hx,h2⟩=>hpm x hx h2]at hpk
  simp (disch:=omega) [zz,hmt',qJ]
  refine hE3 _ _ (by simp) ?_
  simp (disch:=omega) [zz]
  refine hE _ _ (by simp) ?_
  simp (disch:=omega) [zz,Tryz.f11,qP,hpk]
theorem zIk (known b:List Read):∀a:List Read,(∀r∈a,known.find? (fun x=>decide (x.path=r.path))=some r)→zIg known (a++b)=zIg known b
 | [],_=>rfl
 | r::a,h=>by
  have h1:=h r (by simp)
  have h2:=zIk known b a fun x hx=>h x (by simp[hx])
  simp only[List.cons_append,zIg,h1,if_true]
  exact h2
theorem zIs {l:List Read} (h:(l.map (·.path)).Nodup) {i:Nat} (hi:i<l.length):(l.take i).find? (fun x=>decide (x.path=l[i].path))=none:=by
 rw[List.find?_eq_none]
 intro x hx
 simp only[decide_eq_true_eq]
 intro e2
 obtain⟨j,hj,e3⟩:=List.mem_take_iff_getElem.1 hx
 have hj':j<i∧j<l.length:=by omega
 have:=List.pairwise_iff_getElem.1 h j i (by simpa using hj'.2) (by simpa using hi) hj'.1
 simp only[List.getElem_map]at this
 exact this (by rw[e3,e2])
theorem zJ1 {l:List Read} (h:(l.map (·.path)).Nodup) {i:Nat} (hi:i<l.length):zIg (l.take i) l=some (some l[i].path):=by
 have e:l=l.take i++(l[i]::l.drop (i+1)):=by rw[List.getElem_cons_drop,List.take_append_drop]
 have h1:zIg (l.take i) (l.take i++(l[i]::l.drop (i+1)))=zIg (l.take i) (l[i]::l.drop (i+1)):=zIk _ _ _ (zDN (zEX h i))
 rw[←e]at h1
 rw[h1]
 simp only[zIg,zIs h hi]
theorem zIV {l:List Read} (h:(l.map (·.path)).Nodup):zIg l l=none:=by
 have:=zIk l [] l (zDN h)
 rw[List.append_nil]at this
 rw[this];rfl
theorem zIM {l:List Read} (h:(l.map (·.path)).Nodup) {i:Nat} (hi:i<l.length) {q:Read} (hq:q.path=l[i].path) (hne:q≠l[i]):zIg (l.take i++[q]) l=some none:=by
 have e:l=l.take i++(l[i]::l.drop (i+1)):=by rw[List.getElem_cons_drop,List.take_append_drop]
 have h1:zIg (l.take i++[q]) (l.take i++(l[i]::l.drop (i+1)))=zIg (l.take i++[q]) (l[i]::l.drop (i+1)):=zIk _ _ _ fun r hr=>by
  rw[List.find?_append,zDN (zEX h i) r hr];rfl
 rw[←e]at h1
 rw[h1]
 have h2:(l.take i++[q]).find? (fun x=>decide (x.path=l[i].path))=some q:=by
  rw[List.find?_append,zIs h hi]
  simp[hq]
 simp only[zIg,h2,if_neg hne]
def zIu (ver:Nat→Nat):Option Nat→Tok
 | none=>.full
 | some k=>.own k (ver k)
theorem zIo {P:Program} {s:St} {d:Nat} {o:Option Nat} {e:TypeId} {xs ys:List AV} {K:St→Prop} (h1:2*(xs.length+ys.length)*P.bytesOf e≤281474976710656) (h2:xs.length+ys.length≤4611686018427387904) (h3:zB P e=true) (h4:jX P e=true)
  (hk:∀ver',K (({ s with ver:=ver' }:St).put (some d) (.av (.slice e) (.sl (zIu ver' (some d)) (xs++ys))))):wB P s d e (zIu s.ver o) xs ys K:=by
 refine⟨h1,h2,h3,h4,?_⟩
 cases o with
 | none=>simpa[zIu,upd]using hk (upd s.ver d (s.ver d+1))
 | some k=>exact⟨rfl,by simpa[zIu,upd]using hk (upd (upd s.ver k (s.ver k+1)) d (s.ver d+1))⟩
end Go.Proofs.YtcgpcfcbienapaaGreatDoor
end
section
set_option maxRecDepth 100000
namespace Go.Proofs.YtcgpcfcbienapaaGreatDoor
open Go Go.Ab
open Classical
variable [Sel] [SelPow] [SelMax]
@[simp] theorem zxc:qZ Tryz.prog 9=true:=by kernel_rfl
@[simp] theorem zxC:z8 Tryz.prog (.func 9)=false:=q9 zxc
@[simp] theorem zoA:qZ Tryz.prog 14=true:=by kernel_rfl
@[simp] theorem zrs:z8 Tryz.prog (.func 14)=false:=q9 zoA
@[simp] theorem zoB:qZ Tryz.prog 15=true:=by kernel_rfl
@[simp] theorem zrV:z8 Tryz.prog (.func 15)=false:=q9 zoB
@[simp] theorem zAt:qZ Tryz.prog 12=true:=by kernel_rfl
@[simp] theorem zBo:z8 Tryz.prog (.func 12)=false:=q9 zAt
theorem zIj {a b:U1}:jZ a=jZ b↔a=b:=by
 cases a;cases b;simp[jZ]
set_option maxHeartbeats 4000000 in
theorem zIQ (a b:List Read) (ha:a.length≤1000000000) (hb:b.length≤1000000000):PC Tryz.prog 14 [.av (.slice 54) (qF a),.av (.slice 54) (qF b)] (.av .bool (.b (decide (a=b)))):=by
 refine zow Tryz.func14 cf0 fun imm0 w0=>?_
 by_cases hab:a.length=b.length
 rotate_left
 ·have h1:¬(a.length:Int)=b.length:=by omega
  have h2:¬a=b:=fun e=>hab (by rw[e])
  simp (disch:=omega) [zz,h1,qF,Tryz.f14,h2]
 have h1:(a.length:Int)=b.length:=by omega
 simp (disch:=omega) [zz,h1,qF]
 refine AT.loop' (α:=Nat) (fun k=>St.of [(0,.av (.slice 54) (qF a)),(1,.av (.slice 54) (qF b)),(5,.av (.int .i64) (.i .i64 k))] [] (fun _=>0) [])
  (fun k=>k≤b.length∧∀i,i<k→∀(h1:i<a.length) (h2:i<b.length),a[i]=b[i]) (fun k=>b.length-k) 0 ?_ ?_ ?_
 ·apply Le.of<;>simp[qU,qG,zX,qF]<;>try omega
 ·exact⟨by omega,fun i h=>by omega⟩
 rintro k ⟨hk,hall⟩ KL hN hE
 refine qM (cf:=cf0) laid mixed _ _ _ (by kernel_rfl) ?_
 by_cases hlt:k<b.length
 ·have hlt':(k:Int)<b.length:=by omega
  have hlta:k<a.length:=by omega
  have hlta':(k:Int)<a.length:=by omega
  have hga:=KB qI a k hlta
  have hgb:=KB qI b k hlt
  by_cases hc:a[k]=b[k]
  ·simp (disch:=omega) [zz,hlt',hlta',hlt,hlta,hga,hgb,qF,GV,hc]
   (repeat with_reducible refine om ?_)
   refine hN _ (k+1) ?_ ⟨by omega,fun i hi h1 h2=>?_⟩ (by omega)
   ·apply Le.of<;>simp[qU,qG,zX,qF]<;>try omega
   ·rcases Nat.lt_or_ge i k with h|h
    ·exact hall i h h1 h2
    ·have:i=k:=by omega
     subst this;exact hc
  ·have hne:¬a=b:=fun e=>hc (by subst e;rfl)
   simp (disch:=omega) [zz,hlt',hlta',hlt,hlta,hga,hgb,qF,GV,hc]
   (repeat with_reducible refine om ?_)
   refine hE _ _ (by simp) ?_
   simp (disch:=omega) [zz,Tryz.f14,hne]
 ·have hlt':¬(k:Int)<b.length:=by omega
  have hla':¬(k:Int)<a.length:=by omega
  simp (disch:=omega) [zz,hlt',hla',qF]
  refine hE _ _ (by simp) ?_
  have:a=b:=List.ext_getElem hab fun i h1 h2=>hall i (by omega) h1 h2
  simp (disch:=omega) [zz,Tryz.f14,this]
set_option maxHeartbeats 4000000 in
theorem zIP (a b:List U1) (ha:a.length≤1000000000) (hb:b.length≤1000000000):PC Tryz.prog 15 [.av (.slice 71) (zU a),.av (.slice 71) (zU b)] (.av .bool (.b (decide (a=b)))):=by
 refine zow Tryz.func15 cf0 fun imm0 w0=>?_
 by_cases hab:a.length=b.length
 rotate_left
 ·have h1:¬(a.length:Int)=b.length:=by omega
  have h2:¬a=b:=fun e=>hab (by rw[e])
  simp (disch:=omega) [zz,h1,zU,Tryz.f15,h2]
 have h1:(a.length:Int)=b.length:=by omega
 simp (disch:=omega) [zz,h1,zU]
 refine AT.loop' (α:=Nat) (fun k=>St.of [(0,.av (.slice 71) (zU a)),(1,.av (.slice 71) (zU b)),(5,.av (.int .i64) (.i .i64 k))] [] (fun _=>0) [])
  (fun k=>k≤b.length∧∀i,i<k→∀(h1:i<a.length) (h2:i<b.length),a[i]=b[i]) (fun k=>b.length-k) 0 ?_ ?_ ?_
 ·apply Le.of<;>simp[qU,qG,zX,zU]<;>try omega
 ·exact⟨by omega,fun i h=>by omega⟩
 rintro k ⟨hk,hall⟩ KL hN hE
 refine qM (cf:=cf0) laid mixed _ _ _ (by kernel_rfl) ?_
 by_cases hlt:k<b.length
 ·have hlt':(k:Int)<b.length:=by omega
  have hlta:k<a.length:=by omega
  have hlta':(k:Int)<a.length:=by omega
  have hga:=KB jZ a k hlta
  have hgb:=KB jZ b k hlt
  by_cases hc:a[k]=b[k]
  ·simp (disch:=omega) [zz,hlt',hlta',hlt,hlta,hga,hgb,zU,zIj,hc]
   (repeat with_reducible refine om ?_)
   refine hN _ (k+1) ?_ ⟨by omega,fun i hi h1 h2=>?_⟩ (by omega)
   ·apply Le.of<;>simp[qU,qG,zX,zU]<;>try omega
   ·rcases Nat.lt_or_ge i k with h|h
    ·exact hall i h h1 h2
    ·have:i=k:=by omega
     subst this;exact hc
  ·have hne:¬a=b:=fun e=>hc (by subst e;rfl)
   simp (disch:=omega) [zz,hlt',hlta',hlt,hlta,hga,hgb,zU,zIj,hc]
   (repeat with_reducible refine om ?_)
   refine hE _ _ (by simp) ?_
   simp (disch:=omega) [zz,Tryz.f15,hne]
 ·have hlt':¬(k:Int)<b.length:=by omega
  have hla':¬(k:Int)<a.length:=by omega
  simp (disch:=omega) [zz,hlt',hla',zU]
  refine hE _ _ (by simp) ?_
  have:a=b:=List.ext_getElem hab fun i h1 h2=>hall i (by omega) h1 h2
  simp (disch:=omega) [zz,Tryz.f15,this]
theorem zIY (k:KnV) (hk:k.data.length≤1000000000):PC Tryz.prog 12 [.av KnT (zH k)] (.av (qD Tryz.prog 54) (qI (J9 k))):=by
 obtain⟨p,i,d⟩:=k
 simp only at hk
 refine zow Tryz.func12 cf0 fun imm0 w0=>?_
 cases i with
 | false=>simp (disch:=omega) [zz,zH,Tryz.f12,J9,qI,zCZ,AV.ers_eq,AV.er]
 | true =>
  simp (disch:=omega) [zz,zH]
  refine qL (znJ d (by omega)) rfl rfl (by simp) (by simp[qS,TV.er,AV.er,AV.ers,zfI]) ?_
  simp (disch:=omega) [zz,Tryz.f12,J9,qI]
set_option maxHeartbeats 32000000 in
theorem zJ4 (a:xW) (hab:zky a) {cs:List CmdV} (hcv:j7 a.tool=.ok cs) (ks:List KnV) (hkd:∀k∈ks,k.data.length≤65536) (hkl:ks.length≤1000000) :
  PC Tryz.prog 9 [.av UI (kT a),.av (.slice 33) (zL ks)] (.tup [(qD Tryz.prog 41,zI (yD (zEM a cs ks)).1),(.slice 9,.sl .no (strs ((yD (zEM a cs ks)).1.reads.map (·.path)))),(.bool,.b true)]):=by
 have hkns:(zL ks).er=zL ks:=YO ks
 have hae:=YB a
 have hnew:=DZ a hab
 unfold zes at hnew
 rw[hcv]at hnew
 obtain⟨A,hA⟩:∃A,A=kT a:=⟨_,rfl⟩
 rw[←hA]at hae hnew ⊢
 obtain⟨g1,g2,g3⟩:=zFa hab hcv hkd
 have hre:=zew g2
 obtain⟨b',hb'⟩:∃b,b=zEM a cs ks:=⟨_,rfl⟩
 rw[←hb']at g1 g2 hre ⊢
 have hn0:(ZR a.env a.outs (jI a) cs).reads=[]:=by
  obtain⟨m,h⟩:=zec a.env a.outs (jI a) cs (y8 hcv)
  exact h.reads
 unfold PC
 refine q7.sub (R:=fun r H'=>r=.tup [(qD Tryz.prog 41,zI (yD b').1),(.slice 9,.sl .no (strs ((yD b').1.reads.map (·.path)))),(.bool,.b true)]) ?_ (fun r H' hr _=>⟨[],HSub.of_sub (List.nil_sublist _),hr,rfl⟩)
 refine zov Tryz.func9 cf0 fun imm0 w0=>?_
 simp (disch:=omega) [zz]
 refine jP (R:=fun r H'=>∃B,r=.tup [(.ptr,.ptr B KD []),(.int .i64,.i .i64 0)]∧jJ B (ZR a.env a.outs (jI a) cs) H') rfl (by simp[qQ]) (by simp) ?_ ?_
 ·simpa[TV.er,hae,q8.er_nil]using hnew
 rintro r H ⟨B,rfl,hH⟩
 simp (disch:=omega) [zz]
 refine AT.loopV (α:=Nat × zCU × List KnV × q8 × Option Nat) (fun x ver=>St.of [(1,.av (.slice 33) (zL ks)),(4,.loc 4 []),(7,.av (.slice 9) (.sl (zIu ver x.2.2.2.2) (strs (x.2.1.reads.map (·.path))))),(8,.av .ptr (.ptr B KD [])),(10,.av (.int .i64) (.i .i64 x.1))] [(4,(qD Tryz.prog 41,.agg [.i .i64 0,.i .i64 0,.sl .full [],.sl .full []]))] ver x.2.2.2.1)
  (fun x=>x.1≤600∧goF (zFd ks) (600-x.1) x.2.1=some b'∧Z4 a.env cs a.outs (jI a) x.2.2.1 x.2.1∧jJ B x.2.1 x.2.2.2.1) (fun x=>600-x.1) (0,ZR a.env a.outs (jI a) cs,[],H,none) ?_ ?_ ?_
 ·apply Le.of<;>simp[qU,qG,zX,zIu,hn0,strs]<;>try omega
 ·exact⟨by omega,g1,g3,hH⟩
 clear hH
 rintro⟨i,b,kn,H,o⟩ ver ⟨hi,hgo,hk,hH⟩ KL hN hE
 simp only at hi hgo hk hH hN
 have hi6:i<600:=by
  rcases Nat.lt_or_ge i 600 with h|h
  ·exact h
  ·rw[show 600-i=0 by omega]at hgo;cases hgo
 obtain⟨n,hn⟩:∃n,600-i=n+1:=⟨600-i-1,by omega⟩
 rw[hn,goF]at hgo
 have hi':(i:Int)<600:=by omega
 have hHe:=hH.er
 refine qM (cf:=cf0) laid mixed _ _ _ (by kernel_rfl) ?_
 simp (disch:=omega) [zz,hi']
 refine qE (R:=fun y H'=>y=.tup [(.str,.s (if b.over=true then [] else b.asks)),(.bool,.b (!b.over))]∧jJ B b H') H [] (by simp) rfl (by simp[qQ]) (by simp) ?_ ?_
 ·rw[hHe];simpa[TV.er,AV.er]using zci B hH
 rintro y H1 ⟨rfl,hH1⟩ _
 clear hH hHe
 have hHe1:=hH1.er
 refine⟨H1,by simpa using HSub.refl _,?_⟩
 by_cases hov:b.over=true
 rotate_left
 ·rw[if_neg hov]at hgo
  have hov':b.over=false:=by simpa using hov
  simp only[zFd]at hgo
  have han:=zFe ks (by omega) b.asks
  obtain⟨ha1,ha2⟩:=zEc hkd b.asks _ rfl
  obtain⟨k,hkk⟩:∃k,k=zEq ks b.asks:=⟨_,rfl⟩
  rw[←hkk]at han ha1 ha2 hgo
  have hrd:=zuS hov' ha1 ha2
  obtain⟨hgv,hk3⟩:=hk.give k hov' ha1 (fun _=>ha2)
  have hbg:=dW B hH1 hk.g k (by omega) (by have:=hk.rl;omega) (fun h1 h2 h3=>hk.can k h1 h2 (fun _=>ha2))
  rw[hgv]at hbg
  have hke:(zH k).er=zH k:=(vU k).1
  have hrl:=hk.rl
  have hst:strs ((kB k b).2.reads.map (·.path))=strs (b.reads.map (·.path))++[.s b.asks]:=by
   rw[hrd,List.map_append,List.map_cons,List.map_nil,Z6,show (J9 k).path=b.asks from ha1];rfl
  simp (disch:=omega) [zz,hov']
  refine zIo (by simp[strs];omega) (by simp[strs];omega) (by simp) (by simp) ?_
  intro ver2
  simp (disch:=omega) [zz]
  refine qL han rfl rfl (by simp) (by simp[qS,TV.er,AV.er,hkns]) ?_
  simp (disch:=omega) [zz]
  refine qE (R:=fun y H'=>y=.av (.int .i64) (.i .i64 0)∧jJ B (kB k b).2 H') H1 [] (by simp) rfl (by simp[qQ]) (by simp) ?_ ?_
  ·rw[hHe1]
   simpa[TV.er,AV.er,hke]using hbg
  rintro y H4 ⟨rfl,hH4⟩ _
  refine⟨H4,by simpa using HSub.refl _,?_⟩
  simp (disch:=omega) [zz]
  refine hN _ (i+1,(kB k b).2,kn++[k],H4,some 37) ?_ ⟨by simp only;omega,by simp only;rw[show 600-(i+1)=n by omega];exact hgo,hk3,hH4⟩ (by simp only;omega)
  apply Le.of<;>simp[qU,qG,zX,zIu,hst]<;>try omega
 rw[if_pos hov]at hgo
 have hbb:b=b':=Option.some.inj hgo
 subst hbb
 clear hN hgo
 have hers:(zI (yD b).1).er=zI (yD b).1:=KO _
 simp (disch:=omega) [zz,hov]
 refine hE _ _ (by simp) ?_
 clear hE KL
 simp (disch:=omega) [zz]
 refine qE (R:=fun y H'=>y=.tup [(qD Tryz.prog 41,zI (yD b).1),(.bool,.b (yD b).2)]∧jJ B b H') H1 [] (by simp) rfl (by simp[qQ]) (by simp) ?_ ?_
 ·rw[hHe1];simpa[TV.er,AV.er]using QN B hH1 (by have:=hk.rl;omega) (hk.wl hab.bo)
 rintro y H2 ⟨rfl,hH2⟩ _
 refine⟨H2,by simpa using HSub.refl _,?_⟩
 have h2:=uJ hov
 rw[h2,hre]
 simp (disch:=omega) [zz]
 (repeat with_reducible refine om ?_)
 simp (disch:=omega) [zz,hers,zjB,Tryz.f9]
theorem zJ0 (a:xW) (hab:zky a) {e:Int} {n:Nat} (hcv:j7 a.tool=.error (e,n)) (ks:List KnV) :
  PC Tryz.prog 9 [.av UI (kT a),.av (.slice 33) (zL ks)] (.tup [(qD Tryz.prog 41,zI ⟨0,0,[],[]⟩),(.slice 9,.sl .no []),(.bool,.b false)]):=by
 have hae:=YB a
 have hnew:=DZ a hab
 unfold zes at hnew
 rw[hcv]at hnew
 have hne:¬e=0:=by rcases Z8 hcv with h|h<;>omega
 obtain⟨A,hA⟩:∃A,A=kT a:=⟨_,rfl⟩
 rw[←hA]at hae hnew ⊢
 refine zow Tryz.func9 cf0 fun imm0 w0=>?_
 simp (disch:=omega) [zz]
 refine jP (R:=fun r H'=>r=.tup [(.ptr,.nilptr),(.int .i64,.i .i64 e)]∧H'=[]) rfl (by simp[qQ]) (by simp) ?_ ?_
 ·simpa[TV.er,hae,q8.er_nil]using hnew
 rintro r H' ⟨rfl,rfl⟩
 simp (disch:=omega) [zz,hne,zI,zU,qF,Tryz.f9]
end Go.Proofs.YtcgpcfcbienapaaGreatDoor
end
section
set_option maxRecDepth 100000
namespace Go.Proofs.YtcgpcfcbienapaaGreatDoor
open Go Go.Ab
open Classical
variable [Sel]
@[simp] theorem zpf:qZ Tryz.prog 5=true:=by kernel_rfl
@[simp] theorem zsz:z8 Tryz.prog (.func 5)=false:=q9 zpf
def s0:Dig:=[115,0,0,0,0,0,0,0,0,0,0,0,0,0,0,0,0,0,0,0,0,0,0,0,0,0,0,0,0,0,0,0]
def z0:Dig:=[0,0,0,0,0,0,0,0,0,0,0,0,0,0,0,0,0,0,0,0,0,0,0,0,0,0,0,0,0,0,0,0]
def t0:zaP:=⟨z0,[⟨[97],true,s0⟩],[⟨[111,117,116,47,111],s0⟩]⟩
theorem nx1:PC Tryz.prog 11 [.av (.slice 46) (qH [t0]),.av (.slice 54) (qF []),.av (.slice 35) (qO [])] (.av (qD Tryz.prog 50) (qP ⟨1,[97],0⟩)):=by
 have:=zIh [t0] [] [] (by simp) (by simp) (by simp) (by simp[t0]);rwa[show zId [] [] 0 [t0]=⟨1,[97],0⟩ by decide]at this
theorem nx2:PC Tryz.prog 11 [.av (.slice 46) (qH [t0]),.av (.slice 54) (qF t0.reads),.av (.slice 35) (qO [])] (.av (qD Tryz.prog 50) (qP ⟨2,[],0⟩)):=by
 have:=zIh [t0] t0.reads [] (by simp) (by simp[t0]) (by simp) (by simp[t0]);rwa[show zId t0.reads [] 0 [t0]=⟨2,[],0⟩ by decide]at this
theorem nx3:PC Tryz.prog 11 [.av (.slice 46) (qH [t0]),.av (.slice 54) (qF [⟨[97],false,z0⟩]),.av (.slice 35) (qO [])] (.av (qD Tryz.prog 50) (qP ⟨3,[],0⟩)):=by
 have:=zIh [t0] [⟨[97],false,z0⟩] [] (by simp) (by simp) (by simp) (by simp[t0]);rwa[show zId [⟨[97],false,z0⟩] [] 0 [t0]=⟨3,[],0⟩ by decide]at this
theorem nx4:PC Tryz.prog 11 [.av (.slice 46) (qH [t0]),.av (.slice 54) (qF t0.reads),.av (.slice 35) (qO [s0])] (.av (qD Tryz.prog 50) (qP ⟨3,[],0⟩)):=by
 have:=zIh [t0] t0.reads [s0] (by simp) (by simp[t0]) (by simp) (by simp[t0]);rwa[show zId t0.reads [s0] 0 [t0]=⟨3,[],0⟩ by decide]at this
set_option maxHeartbeats 16000000 in
theorem zIL:PC Tryz.prog 5 [] (.av .bool (.b true)):=by
 refine zow Tryz.func5 cf0 fun imm0 w0=>?_
 simp (disch:=omega) [zz,qH]
 (repeat with_reducible refine om ?_)
 refine jC nx1 rfl rfl (by simp) (by simp[qS,coC,TV.er,AV.er,AV.ers,qH,qK,qF,qI,qJ,qN,qO,KW,t0,s0,z0]) ?_
 simp (disch:=omega) [zz]
 (repeat with_reducible refine om ?_)
 refine jC nx2 rfl rfl (by simp) (by simp[qS,coC,TV.er,AV.er,AV.ers,qH,qK,qF,qI,qJ,qN,qO,KW,t0,s0,z0]) ?_
 simp (disch:=omega) [zz,qP]
 (repeat with_reducible refine om ?_)
 refine jC nx3 rfl rfl (by simp) (by simp[qS,coC,TV.er,AV.er,AV.ers,qH,qK,qF,qI,qJ,qN,qO,KW,t0,s0,z0]) ?_
 simp (disch:=omega) [zz]
 (repeat with_reducible refine om ?_)
 refine jC nx4 rfl rfl (by simp) (by simp[qS,coC,TV.er,AV.er,AV.ers,qH,qK,qF,qI,qJ,qN,qO,KW,t0,s0,z0]) ?_
 simp (disch:=omega) [zz,qP]
 (repeat with_reducible refine om ?_)
 simp (disch:=omega) [zz,qP,Tryz.f5]
end Go.Proofs.YtcgpcfcbienapaaGreatDoor
end
section
set_option maxRecDepth 100000
namespace Go.Proofs.YtcgpcfcbienapaaGreatDoor
open Go Go.Ab
open Classical
variable [Sel] [SelPow] [SelMax]
def zIw:Dig:=[1,0,0,0,0,0,0,0,0,0,0,0,0,0,0,0,0,0,0,0,0,0,0,0,0,0,0,0,0,0,0,0]
set_option maxHeartbeats 64000000 in
theorem zIA (a:xW) (was now:List KnV) (ha:vA a≤1000000000) (hw:knW was≤1000000000) (hn:knW now≤1000000000) :
  PC Tryz.prog 3 [.av UI (kT a),.av (.slice 33) (zL was),.av (.slice 33) (zL now)] (.av .bool (.b true)):=by
 have hwe:(zL was).er=zL was:=YO was
 have hne:(zL now).er=zL now:=YO now
 have hae:=YB a
 have hgr:=d8 a ha
 have hmw:=P1 was hw
 have hmn:=P1 now hn
 have hran:=fun hab=>@zJ4 _ _ _ a hab
 obtain⟨A,hA⟩:∃A,A=kT a:=⟨_,rfl⟩
 rw[←hA]at hgr hae hran ⊢
 refine zow Tryz.func3 cf0 fun imm0 w0=>?_
 simp (disch:=omega) [zz]
 refine zcv zIL ?_
 simp (disch:=omega) [zz]
 refine qL hgr rfl rfl (by simp) (by simp[qS,TV.er,hae]) ?_
 by_cases hg:2000<vA a
 ·simp (disch:=omega) [zz,hg,Tryz.f3]
 simp (disch:=omega) [zz,hg]
 refine qL hmw rfl rfl (by simp) (by simp[qS,TV.er,hwe]) ?_
 by_cases hm:5000<knW was
 ·simp (disch:=omega) [zz,hm,Tryz.f3]
 simp (disch:=omega) [zz,hm]
 refine qL hmn rfl rfl (by simp) (by simp[qS,TV.er,hne]) ?_
 by_cases hm2:5000<knW now
 ·simp (disch:=omega) [zz,hm2,Tryz.f3]
 simp (disch:=omega) [zz,hm2]
 have hab:=zbN (a:=a) (by omega)
 obtain⟨hwd,hwl⟩:=zgi (l:=was) (by omega)
 obtain⟨hnd,hnl⟩:=zgi (l:=now) (by omega)
 refine AT.loop' (α:=Nat) (fun i=>St.of [(1,.av (.slice 33) (zL was)),(2,.av (.slice 33) (zL now)),(3,.loc 3 []),(6,.cst (.bool false)),(7,.av (.int .i64) (.i .i64 i))] [(3,(UI,A))] (fun _=>0) [])
  (fun i=>i≤was.length∧zIl (was.take i) now) (fun i=>was.length-i) 0 ?_ ?_ ?_
 ·apply Le.of<;>simp[qU,qG,zX]<;>try omega
 ·exact⟨by omega,fun k hk=>by simp at hk⟩
 rintro i ⟨hi,hnc⟩ KL hN hE
 refine qM (cf:=cf0) laid mixed _ _ _ (by kernel_rfl) ?_
 by_cases hil:i<was.length
 ·have hil':(i:Int)<was.length:=by omega
  have hgi:=pZ was i hil
  have hwi:=hwd _ (List.getElem_mem hil)
  have hst:=List.take_succ_eq_append_getElem hil
  obtain⟨x,hx⟩:∃x,x=was[i]:=⟨_,rfl⟩
  rw[←hx]at hgi hwi hst
  simp (disch:=omega) [zz,hil',hil,zL]
  refine AT.loop' (α:=Nat) (fun j=>St.of [(1,.av (.slice 33) (zL was)),(2,.av (.slice 33) (zL now)),(3,.loc 3 []),(6,.cst (.bool false)),(7,.av (.int .i64) (.i .i64 i)),(8,.av (.int .i64) (.i .i64 j))] [(3,(UI,A))] (fun _=>0) [])
   (fun j=>j≤now.length∧zIl [x] (now.take j)) (fun j=>now.length-j) 0 ?_ ?_ ?_
  ·apply Le.of<;>simp[qU,qG,zX,zL]<;>try omega
  ·exact⟨by omega,fun k _ l hl=>by simp at hl⟩
  rintro j ⟨hj,hnc2⟩ KL2 hN2 hE2
  refine qM (cf:=cf0) laid mixed _ _ _ (by kernel_rfl) ?_
  by_cases hjl:j<now.length
  ·have hjl':(j:Int)<now.length:=by omega
   have hgj:=pZ now j hjl
   have hnj:=hnd _ (List.getElem_mem hjl)
   have hst2:=List.take_succ_eq_append_getElem hjl
   obtain⟨y,hy⟩:∃y,y=now[j]:=⟨_,rfl⟩
   rw[←hy]at hgj hnj hst2
   have hnext:¬(x.data≠y.data∧sha x.data=sha y.data)→zIl [x] (now.take (j+1)):=fun h k hk l hl=>by
    rw[List.mem_singleton.1 hk]
    rw[hst2]at hl
    rcases List.mem_append.1 hl with hl|hl
    ·exact hnc2 x (by simp) l hl
    ·rw[List.mem_singleton.1 hl]
     exact fun h1 h2=>h ⟨h1,h2⟩
   have hyd:now[j].data=y.data:=by rw[hy]
   have hxd:was[i].data=x.data:=by rw[hx]
   by_cases hd:x.data=y.data
   ·simp (disch:=omega) [zz,hjl',hjl,hil',hil,hgi,hgj,zL,zH,hxd,hyd,hd]
    (repeat with_reducible refine om ?_)
    refine hN2 _ (j+1) ?_ ⟨by omega,hnext fun h=>h.1 hd⟩ (by omega)
    apply Le.of<;>simp[qU,qG,zX,zL]<;>try omega
   ·simp (disch:=omega) [zz,hjl',hjl,hil',hil,hgi,hgj,zL,zH,hxd,hyd,hd]
    (repeat with_reducible refine om ?_)
    refine jC (znJ x.data (by omega)) rfl rfl (by simp) (by simp[qS,coC,TV.er,AV.er,AV.ers,zfI,hxd]) ?_
    simp (disch:=omega) [zz,hxd,hyd]
    (repeat with_reducible refine om ?_)
    refine jC (znJ y.data (by omega)) rfl rfl (by simp) (by simp[qS,coC,TV.er,AV.er,AV.ers,zfI,hyd]) ?_
    by_cases hs:sha x.data=sha y.data
    ·simp (disch:=omega) [zz,hs,ziF]
     (repeat with_reducible refine om ?_)
     refine hE2 _ _ (by simp) ?_
     refine hE _ _ (by simp) ?_
     simp (disch:=omega) [zz,Tryz.f3]
    ·simp (disch:=omega) [zz,hs,ziF]
     (repeat with_reducible refine om ?_)
     refine hN2 _ (j+1) ?_ ⟨by omega,hnext fun h=>hs h.2⟩ (by omega)
     apply Le.of<;>simp[qU,qG,zX,zL]<;>try omega
  have hjl':¬(j:Int)<now.length:=by omega
  rw[List.take_of_length_le (by omega)]at hnc2
  simp (disch:=omega) [zz,hjl',zL]
  refine hE2 _ _ (by simp) ?_
  simp (disch:=omega) [zz]
  refine hN _ (i+1) ?_ ⟨by omega,fun k hk l hl=>?_⟩ (by omega)
  ·apply Le.of<;>simp[qU,qG,zX,zL]<;>try omega
  ·rw[hst]at hk
   rcases List.mem_append.1 hk with hk|hk
   ·exact hnc k hk l hl
   ·rw[List.mem_singleton.1 hk];exact hnc2 x (by simp) l hl
 have hil':¬(i:Int)<was.length:=by omega
 rw[List.take_of_length_le (by omega)]at hnc
 simp (disch:=omega) [zz,hil',zL]
 refine hE _ _ (by simp) ?_
 clear hN hE KL
 cases hcv:j7 a.tool with
 | error en =>
  obtain⟨e,n⟩:=en
  have hre:=zJ0 a hab hcv was
  have hof:=zGq zIw ⟨0,0,[],[]⟩ ⟨by simp,by simp,by simp,by simp⟩
  have htv:zES zIw ⟨0,0,[],[]⟩=.tup [(qD Tryz.prog 46,qK tr0),(.int .i64,.i .i64 19)]:=by
   unfold zES ofT ofE;rw[if_pos (by decide),if_pos (by decide)]
  rw[htv]at hof
  rw[←hA]at hre
  simp (disch:=omega) [zz]
  refine qL hre rfl rfl (by simp) (by simp[qS,TV.er,hae,zL,AV.er,AV.ers_eq,Function.comp_def,(vU _).1]) ?_
  simp (disch:=omega) [zz]
  refine qL hof rfl rfl (by simp) (by simp[qS,TV.er,AV.er,AV.ers,zIw,KW,zI,zU,qF]) ?_
  simp (disch:=omega) [zz,Tryz.f3]
 | ok cs =>
 have hr1:=hran hab hcv was hwd (by omega)
 have hr2:=hran hab hcv now hnd (by omega)
 obtain⟨g1,g2,g3⟩:=zFa hab hcv hwd
 obtain⟨n1,n2,n3⟩:=zFa hab hcv hnd
 have htold:=zFf hab (fun p hp=>by have:=zll hp;unfold vA at hg;omega) hcv (zEc hwd) g1 g2
 have ntold:=zFf hab (fun p hp=>by have:=zll hp;unfold vA at hg;omega) hcv (zEc hnd) n1 n2
 have hend:=zFl hab hcv hwd
 have hfront:=zIN hab hcv hnc hwd hnd
 have hsame:=zIR hab hcv hnc hwd hnd
 have ntol:=zIt hab hcv hnd
 obtain⟨o,ho⟩:∃o,o=(yD (zEM a cs was)).1:=⟨_,rfl⟩
 obtain⟨x,hx⟩:∃o,o=(yD (zEM a cs now)).1:=⟨_,rfl⟩
 simp only[←ho,←hx]at hr1 hr2 htold ntold hend hfront ntol
 have hsame:(∀r∈o.reads,J9 (zEq now r.path)=r)→x=o:=fun h=>by rw[hx,ho,hsame (by rw[←ho];exact h)]
 obtain⟨_,hr5,hrp,ho1,hop⟩:=htold
 obtain⟨_,nr5,nrp,no1,nop⟩:=ntold
 have hao:zFX o:=⟨by omega,ho1,fun r hr=>Nat.le_trans (hrp r hr) (by decide),fun f hf=>⟨(hop f hf).1,Nat.le_trans (hop f hf).2 (by decide)⟩⟩
 have hof:=zGq zIw o hao
 have hoe:=KO o
 have hxe:=KO x
 obtain⟨T,hT⟩:∃T,T=ofT zIw o:=⟨_,rfl⟩
 obtain⟨f,hf⟩:∃f,f=ofE zIw o:=⟨_,rfl⟩
 have htv:zES zIw o=.tup [(qD Tryz.prog 46,qK T),(.int .i64,.i .i64 f)]:=by rw[hT,hf];rfl
 rw[htv]at hof
 simp (disch:=omega) [zz]
 refine qL hr1 rfl rfl (by simp) (by simp[qS,TV.er,hae,zL,AV.er,AV.ers_eq,Function.comp_def,(vU _).1]) ?_
 simp (disch:=omega) [zz]
 refine qL hof rfl rfl (by simp) (by simp[qS,TV.er,AV.er,AV.ers,zIw,KW,hoe]) ?_
 by_cases hf0:f=0
 rotate_left
 ·simp (disch:=omega) [zz,hf0,Tryz.f3]
 rw[hf0]at hf
 have hof2:o.kind=1∧zCW (zD7 zIw o)=0:=by
  have h:=hf.symm
  unfold ofE at h
  by_cases hk:o.kind=1
  ·rw[if_neg (by simp[hk])]at h;exact⟨hk,h⟩
  ·rw[if_pos hk]at h;cases h
 obtain⟨hk1,hc⟩:=hof2
 have hTr:T=zD7 zIw o:=by rw[hT,ofT,if_neg (by simp[hk1]),if_pos hc]
 have hTR:T.reads=o.reads:=by rw[hTr];rfl
 have hTO:T.outs.length≤1000000:=by rw[hTr];simpa[zD7]using ho1
 obtain⟨hfr,_⟩:=hend hk1
 have hnod:=hfr.2
 have hte:=zd4 T
 have htes:∀l:List zaP,(qH l).er=qH l:=zc2
 have hree:∀l:List Read,(qF l).er=qF l:=zdY
 have hnx:=fun(kn:List Read) (hl:kn.length≤9223372036854775807)=>zIh [T] kn [] (by simp) hl (by simp) (by intro t ht;rw[List.mem_singleton.1 ht,hTR];omega)
 have hlr:=zIQ o.reads x.reads (by omega) (by omega)
 have hlf:=zIP o.outs x.outs (by omega) (by omega)
 simp (disch:=omega) [zz,hf0]
 refine qL hr2 rfl rfl (by simp) (by simp[qS,TV.er,hae,zL,AV.er,AV.ers_eq,Function.comp_def,(vU _).1]) ?_
 simp (disch:=omega) [zz]
 refine AT.loopV (α:=Nat × List Read × Option Nat) (fun y ver=>St.of [(2,.av (.slice 33) (zL now)),(6,.cst (.bool false)),(9,.loc 9 []),(12,.loc 12 []),(14,.loc 14 []),(15,.av (.slice 9) (.sl .no (strs (x.reads.map (·.path))))),(17,.av (.slice 54) (.sl (zIu ver y.2.2) (y.2.1.map qI))),(18,.av (.int .i64) (.i .i64 y.1))] [(9,(qD Tryz.prog 41,zI o)),(12,(qD Tryz.prog 46,qK T)),(14,(qD Tryz.prog 41,zI x))] ver [])
  (fun y=>(y.1≤o.reads.length∧y.2.1=o.reads.take y.1∧∀r∈o.reads.take y.1,J9 (zEq now r.path)=r)∨
   (∃m,∃hm:m<o.reads.length,y.1=m+1∧y.2.1=o.reads.take m++[J9 (zEq now o.reads[m].path)]∧J9 (zEq now o.reads[m].path)≠o.reads[m]∧∀r∈o.reads.take m,J9 (zEq now r.path)=r)) (fun y=>602-y.1) (0,[],none) ?_ ?_ ?_
 ·apply Le.of<;>simp[qU,qG,zX,zIu,zL]<;>try omega
 ·exact .inl ⟨by simp,by simp,by simp⟩
 have hpath:∀p,(J9 (zEq now p)).path=p:=fun p=>zFn now p
 have hfr2:∀m (hm:m<o.reads.length),(∀r∈o.reads.take m,J9 (zEq now r.path)=r)→∃h:m<x.reads.length,x.reads[m].path=o.reads[m].path:=fun m hm h =>
  hfront m hm fun j hj=>h _ (List.mem_take_iff_getElem.2 ⟨j,by omega,rfl⟩)
 rintro⟨n,kn,tk⟩ ver hcase KL hN hE
 simp only at hcase hN
 have hkl:kn.length=n∧n≤500:=by
  rcases hcase with⟨h1,h2,_⟩|⟨m,hm,h1,h2,_⟩
  ·rw[h2,List.length_take];omega
  ·rw[h2,List.length_append,List.length_take,List.length_singleton];omega
 obtain⟨hkl,hn5⟩:=hkl
 have hn6:(n:Int)≤600:=by omega
 have hnk:=hnx kn (by omega)
 refine qM (cf:=cf0) laid mixed _ _ _ (by kernel_rfl) ?_
 simp (disch:=omega) [zz,hn6]
 refine qL hnk rfl rfl (by simp) (by simp[qS,TV.er,AV.er,AV.ers,hte,qH,qF,qO,AV.ers_eq,Function.comp_def]) ?_
 rcases hcase with⟨h1,h2,h3⟩|⟨m,hm,h1,h2,h3,h4⟩
 rotate_left
 ·-- one read is not as it was
  have hv:zId kn [] 0 [T]=⟨3,[],0⟩:=by
   rw[zId,hTR,h2,zIM hnod hm (hpath _) h3];rfl
  obtain⟨hmx,hpx⟩:=hfr2 m hm h4
  have hne2:¬o.reads=x.reads:=fun e=>by
   have h5:=ntol _ (List.getElem_mem hmx)
   rw[hpx]at h5
   have:o.reads[m]=x.reads[m]:=by simp only[e]
   exact h3 (h5.trans this.symm)
  rw[show decide (o.reads=x.reads)=false from decide_eq_false hne2]at hlr
  simp (disch:=omega) [zz,hv,qP,qK,zI,hTR]
  refine qL hlr rfl rfl (by simp) (by simp[qS,TV.er,AV.er,hree]) ?_
  simp (disch:=omega) [zz,hv,qP]
  refine hE _ _ (by simp) ?_
  simp (disch:=omega) [zz,Tryz.f3]
 by_cases hnl:n<o.reads.length
 ·have hv:zId kn [] 0 [T]=⟨1,o.reads[n].path,0⟩:=by
   rw[zId,hTR,h2,zJ1 hnod hnl]
  obtain⟨hmx,hpx⟩:=hfr2 n hnl h3
  have hmx':(n:Int)<x.reads.length:=by omega
  have hgx:(strs (x.reads.map (·.path)))[n]?=some (.s o.reads[n].path):=by rw[←hpx];simp[strs,List.getElem?_eq_getElem hmx]
  have hst:o.reads.take (n+1)=o.reads.take n++[o.reads[n]]:=List.take_succ_eq_append_getElem hnl
  obtain⟨r,hr⟩:∃r,r=o.reads[n]:=⟨_,rfl⟩
  rw[←hr]at hv hgx hpx hst
  have hadt:=(zEc hnd r.path _ rfl).2
  have han:=zFe now (by omega) r.path
  obtain⟨k,hkk⟩:∃k,k=zEq now r.path:=⟨_,rfl⟩
  rw[←hkk]at han hadt
  have hds:=zIY k (by omega)
  have hke:=(vU k).1
  simp (disch:=omega) [zz,hv,qP,hkl,hmx,hmx',hgx]
  (repeat with_reducible refine om ?_)
  refine qL han rfl rfl (by simp) (by simp[qS,TV.er,AV.er,zL,AV.ers_eq,Function.comp_def,(vU _).1]) ?_
  simp (disch:=omega) [zz]
  refine qL hds rfl rfl (by simp) (by simp[qS,TV.er,AV.er,hke]) ?_
  simp (disch:=omega) [zz]
  refine zIo (by simp;omega) (by simp;omega) (by simp) (by simp) ?_
  intro ver2
  simp (disch:=omega) [zz]
  have hq:J9 k=J9 (zEq now r.path):=by rw[hkk]
  by_cases he:J9 k=r
  ·refine hN _ (n+1,kn++[J9 k],some 132) ?_ (.inl ⟨by simp only;omega,by simp only;rw[hst,h2,he],fun y hy=>?_⟩) (by simp only;omega)
   ·apply Le.of<;>simp[qU,qG,zX,zIu,zL]<;>try omega
   ·simp only at hy
    rw[hst]at hy
    rcases List.mem_append.1 hy with hy|hy
    ·exact h3 y hy
    ·rw[List.mem_singleton.1 hy,←hq];exact he
  ·refine hN _ (n+1,kn++[J9 k],some 132) ?_ (.inr ⟨n,hnl,rfl,by simp only;rw[h2,←hr,←hq],by rw[←hr,←hq];exact he,h3⟩) (by simp only;omega)
   apply Le.of<;>simp[qU,qG,zX,zIu,zL]<;>try omega
 have hnn:n=o.reads.length:=by omega
 subst hnn
 rw[List.take_length]at h2 h3
 have hxo:x=o:=hsame h3
 have hv:zId kn [] 0 [T]=⟨2,[],0⟩:=by
  rw[zId,hTR,h2,zIV hnod];simp
 rw[hxo]at hlr hlf ⊢
 rw[show decide (o.reads=o.reads)=true from decide_eq_true rfl]at hlr
 rw[show decide (o.outs=o.outs)=true from decide_eq_true rfl]at hlf
 simp (disch:=omega) [zz,hv,qP,qK,zI,hTR]
 refine qL hlr rfl rfl (by simp) (by simp[qS,TV.er,AV.er,hree]) ?_
 simp (disch:=omega) [zz,hv,qP,hk1]
 refine zcv hlf ?_
 simp (disch:=omega) [zz]
 refine hE _ _ (by simp) ?_
 simp (disch:=omega) [zz,Tryz.f3]
end Go.Proofs.YtcgpcfcbienapaaGreatDoor
end
