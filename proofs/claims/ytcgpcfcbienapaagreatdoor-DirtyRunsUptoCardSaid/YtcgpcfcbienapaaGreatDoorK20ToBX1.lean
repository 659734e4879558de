/- The document's tool as small steps, and the program's tool beside it: plain. No condition beyond each theorem's own. -/
import Derived.Test.YtcgpcfcbienapaaGreatDoorKM
import Derived.Test.YtcgpcfcbienapaaGreatDoorQ0ToK5
import Derived.Test.YtcgpcfcbienapaaGreatDoorL0
import Derived.Test.YtcgpcfcbienapaaGreatDoorB0
set_option linter.unusedSimpArgs false
set_option linter.unusedVariables false
set_option linter.unusedSectionVars false
section
set_option maxRecDepth 100000
namespace Go.Proofs.YtcgpcfcbienapaaGreatDoor
open Go Go.Ab
open Classical
variable [Sel] [SelPow] [SelMax]
structure StV where
 buf:Txt
 asked:List Txt
 wrote:List DoV
 stop:DoV
structure CfV where
 td:List TdV
 st:StV
 done:List Txt
def st0:StV:=⟨[],[],[],do0⟩
def yZ (e:Int) (s:StV):StV:={ s with stop:=⟨4,[],[],e⟩ }
def yP (t:Txt) (s:StV):StV:=if 65536<s.buf.length+t.length then yZ 6 s else { s with buf:=s.buf++t }
def CfV.map (c:CfV) (f:StV→StV):CfV:={ c with st:=f c.st }
def VX (p:Txt) (k:CoV) (c:CfV):CfV :=
 if p∈c.st.asked then { c with td:=.ans k p::c.td }
 else if 500≤c.st.asked.length then c.map (yZ 6)
 else { c with td:=.ans k p::c.td,st:={ c.st with asked:=c.st.asked++[p] } }
def thS:ThV→Txt→CfV→CfV
 | .add,d,c=>c.map (yP d)
 | .scan w,d,c=>{ c with td:=((z7 d).map fun s=>.line s w)++c.td }
def coS:CoV→KnV→CfV→CfV
 | .there t,x,c=>if x.is=true then thS t x.data c else c.map (yZ 10)
 | .tr,x,c=>if x.is=true then c.map (yP x.data) else c
def zb0 (p w:Txt) (c:CfV):CfV:=VX p (.there (.scan w)) { c with done:=c.done++[p] }
def D4 (s w:Txt) (c:CfV):CfV :=
 match zR s with
 | [a,p]=>if a≠w∨yV p=false then c.map (yP (s++[10])) else if p∈c.done then c else zb0 p w c
 | _=>c.map (yP (s++[10]))
noncomputable def cS (name arg buf:Txt):Txt :=
 if name=wP then(kK (z7 buf)).flatMap (·++[10])
 else if name=y4 then(kF (z7 buf)).flatMap (·++[10])
 else if name=kV then buf.map upB
 else if name=kY then Lib.itoa (z7 buf).length++[10]
 else if name=wQ then((z7 buf).filter fun s=>Lib.contains s arg).flatMap (·++[10])
 else buf
noncomputable def V6 (env:List (Txt × Txt)) (c:CmdV) (f:CfV):CfV :=
 let w:=c.words.getD 0 []
 let arg:=c.words.getD 1 []
 if w=zZ then VX arg (.there .add) f
 else if w=w8 then VX arg .tr f
 else if w=jT then zb0 arg (c.words.getD 2 []) { f with done:=[] }
 else if w=zCX then f.map (yP (c.rest++[10]))
 else if w=yO then(match env.find? fun x=>decide (x.1=arg)with
  | some x=>f.map (yP x.2)
  | none=>f.map (yZ 10))
 else if w=j8 then f.map fun s=>{ s with wrote:=s.wrote++[⟨2,arg,s.buf,0⟩],buf:=[] }
 else if w=kG then(if (z7 f.st.buf).any (fun s=>Lib.contains s arg)=true then f else f.map (yZ 15))
 else if w=yR then f.map (yZ 15)
 else f.map fun s=>yP (cS w arg s.buf) { s with buf:=[] }
noncomputable def J6 (env:List (Txt × Txt)) (kn:List KnV) (c:CfV):CfV:=match c.td with
 | []=>c.map fun s=>{ s with stop:=⟨3,[],[],0⟩ }
 | .cmd x::l=>V6 env x { c with td:=l }
 | .line s w::l=>D4 s w { c with td:=l }
 | .ans k p::l=>(match zQ kn p with
  | some x=>coS k x { c with td:=l }
  | none=>CfV.map { c with td:=l } fun s=>{ s with stop:=⟨1,p,[],0⟩ })
inductive Q7 (env:List (Txt × Txt)) (kn:List KnV):CfV→CfV→Prop
 | refl (c):Q7 env kn c c
 | step {c c'}:c.st.stop.kind=0→Q7 env kn (J6 env kn c) c'→Q7 env kn c c'
theorem Q7.trans {env:List (Txt × Txt)} {kn:List KnV} {a b c:CfV} (h:Q7 env kn a b) (g:Q7 env kn b c):Q7 env kn a c:=by
 induction h with
 | refl=>exact g
 | step h _ ih=>exact .step h (ih g)
theorem Q7.one {env:List (Txt × Txt)} {kn:List KnV} {a:CfV} (h:a.st.stop.kind=0):Q7 env kn a (J6 env kn a):=.step h (.refl _)
theorem Q7.det {env:List (Txt × Txt)} {kn:List KnV} {a b c:CfV} (h:Q7 env kn a b) (g:Q7 env kn a c) (hb:b.st.stop.kind≠0) (hc:c.st.stop.kind≠0):b=c:=by
 induction h with
 | refl =>
  cases g with
  | refl=>rfl
  | step h1 _=>omega
 | step h1 _ ih =>
  cases g with
  | refl=>omega
  | step _ g1=>simp_all
/-! ### the program's tool, seen so -/
noncomputable def jV (wr:List DoV) (r:zCT):CfV :=
 ⟨r.todo.reverse,⟨r.buf,r.known.map (·.path)++(if r.waits=true then [r.asks] else []),if r.over.kind=2 then wr++[r.over] else wr,if r.over.kind=2 then do0 else r.over⟩,r.seen⟩
theorem PP (wr:List DoV) {r:zCT} (hw:r.waits=false) (ho:r.over=do0):jV wr r=⟨r.todo.reverse,⟨r.buf,r.known.map (·.path),wr,do0⟩,r.seen⟩:=by
 simp_all[jV,do0]
theorem zaC {kn kn':List KnV} {p:Txt} {x:KnV} (h:kn <+: kn') (hf:zQ kn p=some x):zQ kn' p=some x:=by
 obtain⟨m,rfl⟩:=h
 simp_all[zQ]
theorem ze4 {kn:List KnV} {p:Txt} {x:KnV} (hf:zQ kn p=some x):p∈kn.map (·.path):=by
 obtain⟨h1,h2⟩:=KP hf
 grind
theorem uZ {kn:List KnV} {p:Txt} (hf:zQ kn p=none):p∉kn.map (·.path):=by
 intro h
 obtain⟨x,h1,h2⟩:=List.mem_map.1 h
 have:=List.find?_eq_none.1 hf x h1
 simp_all
structure zsH (wr:List DoV) (r r':zCT) (c:CfV):Prop where
 eq:jV wr r'=c
theorem KS (wr:List DoV) (e:Int) {r:zCT} (hw:r.waits=false) (ho:r.over=do0):jV wr (wC e r)=(jV wr r).map (yZ e):=by
 simp_all[jV,wC,CfV.map,yZ,do0]
theorem ZW (wr:List DoV) (t:Txt) {r:zCT} (hw:r.waits=false) (ho:r.over=do0):jV wr (wW t r)=(jV wr r).map (yP t):=by
 grind [wW,KS,jV,CfV.map,yP]
theorem zg7 (wr:List DoV) (k:CoV) (x:KnV) {r:zCT} (hw:r.waits=false) (ho:r.over=do0):jV wr (coR k x r)=coS k x (jV wr r):=by
 cases hx:x.is with
 | false =>
  cases k with
  | tr=>simp[coR,coS,hx]
  | there t=>simp_all[coR,coS,KS]
 | true =>
  cases k with
  | tr=>simp_all[coR,coS,ZW]
  | there t=>cases t with
   | add=>simp_all[coR,coS,thR,thS,ZW]
   | scan w=>simp_all[coR,coS,thR,thS,jV]
theorem P9 (env:List (Txt × Txt)) {kn:List KnV} (wr:List DoV) (p:Txt) (k:CoV) {r:zCT} (hk:r.known <+: kn) (hw:r.waits=false) (ho:r.over=do0):Q7 env kn (VX p k (jV wr r)) (jV wr (Q6 p k r)):=by
 have e:=PP wr hw ho
 unfold Q6
 cases hf:zQ r.known p with
 | some x =>
  have h1:=ze4 hf
  have h2:=zaC hk hf
  have ha:p∈(jV wr r).st.asked:=by simp_all
  simp only[VX,ha,if_true]
  refine .step (by rw[e];rfl) ?_
  simp only[J6,h2]
  rw[zg7 wr k x hw ho]
  exact .refl _
 | none =>
  have h1:=uZ hf
  have ha:¬p∈(jV wr r).st.asked:=by simp_all
  have hl:(jV wr r).st.asked.length=r.known.length:=by rw[e];simp
  simp only[VX,ha,if_false,hl]
  by_cases h5:500≤r.known.length
  ·simp only[h5,if_true]
   rw[KS wr 6 hw ho]
   exact .refl _
  ·simp only[h5,if_false]
   have:jV wr { r with asks:=p,waits:=true,todo:=r.todo++[.ans k p] }={ jV wr r with td:=.ans k p::(jV wr r).td,st:={ (jV wr r).st with asked:=(jV wr r).st.asked++[p] } }:=by
    simp_all[jV]
   rw[this]
   exact .refl _
theorem zbb (env:List (Txt × Txt)) {kn:List KnV} (wr:List DoV) (p w:Txt) {r:zCT} (hk:r.known <+: kn) (hw:r.waits=false) (ho:r.over=do0):Q7 env kn (zb0 p w (jV wr r)) (jV wr (ZL p w r)):=by
 have:=P9 env wr p (.there (.scan w)) (r:={ r with seen:=r.seen++[p] }) hk hw ho
 exact this
theorem zgT (env:List (Txt × Txt)) {kn:List KnV} (wr:List DoV) (s w:Txt) {r:zCT} (hk:r.known <+: kn) (hw:r.waits=false) (ho:r.over=do0):Q7 env kn (D4 s w (jV wr r)) (jV wr (Z1 s w r)):=by
 unfold D4 Z1
 generalize zR s=ws
 rcases ws with _|⟨a,_|⟨p,_|⟨q,l⟩⟩⟩
 ·simp only;rw[ZW wr _ hw ho];exact .refl _
 ·simp only;rw[ZW wr _ hw ho];exact .refl _
 ·simp only
  by_cases h1:a≠w∨yV p=false
  ·rw[if_pos h1,if_pos h1,ZW wr _ hw ho];exact .refl _
  ·rw[if_neg h1,if_neg h1]
   have:(jV wr r).done=r.seen:=rfl
   rw[this]
   by_cases h2:p∈r.seen
   ·rw[if_pos h2,if_pos h2];exact .refl _
   simp_all[zbb]
 ·simp only;rw[ZW wr _ hw ho];exact .refl _
theorem d9 (wr:List DoV) (b:Txt) {r:zCT} (hw:r.waits=false) (ho:r.over=do0):jV wr { r with buf:=b }=(jV wr r).map fun s=>{ s with buf:=b }:=by
 rfl
theorem dK (t:Txt) (s:StV) (h:t.length≤65536):yP t { s with buf:=[] }={ s with buf:=t }:=by
 grind [yP]
theorem UK (wr:List DoV) (l:List Txt) {r:zCT} (hw:r.waits=false) (ho:r.over=do0):jV wr (kS l r)=(jV wr r).map fun s=>yP (l.flatMap (·++[10])) { s with buf:=[] }:=by
 unfold kS
 rw[ZW wr _ (r:={ r with buf:=[] }) hw ho,d9 wr [] hw ho]
 rfl
theorem zgL (wr:List DoV) (n a:Txt) {r:zCT} (hw:r.waits=false) (ho:r.over=do0) (hb:r.buf.length≤65536):jV wr (wK n a r)=(jV wr r).map fun s=>yP (cS n a s.buf) { s with buf:=[] }:=by
 have eb:(jV wr r).st.buf=r.buf:=rfl
 unfold wK cS
 simp only[CfV.map,eb]
 split
 ·rw[UK wr _ hw ho];rfl
 split
 ·rw[UK wr _ hw ho];rfl
 split
 ·rw[dK _ _ (by simp_all)]
  rfl
 split
 ·have h1:=ZE r.buf
  have h2:(Lib.itoa ((z7 r.buf).length:Int)).length≤21:=Lib.itoa_length_le _ (by omega) (by omega)
  rw[dK _ _ (by grind)]
  rfl
 split
 ·rw[UK wr _ hw ho];rfl
 grind [dK,jV]
theorem zj6 (env:List (Txt × Txt)) {kn:List KnV} (wr:List DoV) (c:CmdV) {r:zCT} (he:r.env=env) (hk:r.known <+: kn) (hw:r.waits=false) (ho:r.over=do0) (hb:r.buf.length≤65536):Q7 env kn (V6 env c (jV wr r)) (jV wr (doR c r)):=by
 have e:=PP wr hw ho
 have eb:(jV wr r).st.buf=r.buf:=rfl
 subst he
 unfold V6 doR
 simp only
 split
 ·grind [P9]
 split
 ·grind [P9]
 split
 ·exact zbb _ wr _ _ (r:={ r with seen:=[] }) hk hw ho
 split
 ·rw[ZW wr _ hw ho];exact .refl _
 split
 ·cases hf:(r.env.find? fun x=>decide (x.1=c.words.getD 1 []))with
  | some x=>simp only;rw[ZW wr _ hw ho];exact .refl _
  | none=>simp only;rw[KS wr _ hw ho];exact .refl _
 split
 ·have:jV wr { r with over:=⟨2,c.words.getD 1 [],r.buf,0⟩,buf:=[] }=(jV wr r).map fun s=>{ s with wrote:=s.wrote++[⟨2,c.words.getD 1 [],s.buf,0⟩],buf:=[] }:=by
   simp_all[jV,CfV.map]
  rw[this];exact .refl _
 split
 ·rw[eb]
  split
  ·exact .refl _
  ·rw[KS wr _ hw ho];exact .refl _
 split
 ·rw[KS wr _ hw ho];exact .refl _
 ·rw[zgL wr _ _ hw ho hb];exact .refl _
theorem zgD (env:List (Txt × Txt)) {kn:List KnV} (wr:List DoV) {r:zCT} (hi:JF r) (he:r.env=env) (hk:r.known <+: kn) (hw:r.waits=false) (ho:r.over=do0):Q7 env kn (jV wr r) (jV wr (QL r)):=by
 have e:=PP wr hw ho
 refine .step (by rw[e];rfl) ?_
 rcases List.eq_nil_or_concat r.todo with ht|⟨l,t,ht⟩
 ·rw[KT ht]
  have:J6 env kn (jV wr r)=jV wr { r with over:=⟨3,[],[],0⟩ }:=by
   simp_all[J6,CfV.map,jV]
  rw[this];exact .refl _
 ·rw[List.concat_eq_append]at ht
  rw[KV ht]
  have htd:(jV wr r).td=t::l.reverse:=by simp_all
  have hr:({ jV wr r with td:=l.reverse }:CfV)=jV wr { r with todo:=l }:=rfl
  have hbuf:r.buf.length≤65536:=by
   rcases hi with⟨h,_⟩|⟨_,_,_,_,h,_⟩
   ·exact h.buf
   ·exact h.buf
  cases t with
  | cmd c =>
   simp_all[J6,tdR,zj6]
  | line s w =>
   simp_all[J6,tdR,zgT]
  | ans k p =>
   simp only[J6,htd,hr,tdR]
   have hf:∃x,zQ r.known p=some x:=by
    rcases hi with⟨h,_⟩|⟨l',k',p',h1,h2,h3,h4,h5⟩
    ·obtain⟨a,b,h1,h2,h3⟩:=h.ord
     have hm:TdV.ans k p∈a++b:=by simp_all
     grind [isC,isL]
    simp_all
   obtain⟨x,hf⟩:=hf
   have h2:=zaC hk hf
   have h3:(zQ { r with todo:=l }.known p).getD kn0=x:=by simp[hf]
   rw[h3]
   simp only[h2]
   rw[zg7 wr k x (r:={ r with todo:=l }) hw ho]
   exact .refl _
def xP:Txt→Txt
 | []=>[]
 | c::r=>if vV c=true then xP r else c::r
def Q2:Txt→Txt
 | []=>[]
 | c::r=>if vV c=true then c::r else Q2 r
def V9 (l:Txt):Txt:=(Q2 (xP l)).drop 1
theorem p7:∀l:Txt,kA [] l=kA [] (xP l)
 | []=>rfl
 | c::r=>by
  unfold xP
  split
  ·rename_i h
   rw[kA,if_pos h,if_pos rfl]
   exact p7 r
  ·rfl
theorem PO:∀(l cur:Txt),cur≠[]→kA cur l=(cur++l.take (l.length-(Q2 l).length))::kA [] (Q2 l)
 | [],cur,h=>by simp[kA,Q2,h]
 | c::r,cur,h=>by
  unfold Q2
  split
  ·simp_all[kA]
  ·rename_i hc
   rw[kA,if_neg hc,PO r (cur++[c]) (by simp)]
   have:(Q2 r).length≤r.length:=by
    have:∀q:Txt,(Q2 q).length≤q.length:=by
     intro q
     induction q with
     | nil=>simp[Q2]
     | cons x q ih=>grind [Q2]
    exact this r
   rw[show (c::r).length-(Q2 r).length=r.length-(Q2 r).length+1 by simp;omega]
   simp
theorem zaI:∀q:Txt,(Q2 q).length≤q.length
 | []=>by simp[Q2]
 | x::q=>by
  have:=zaI q
  unfold Q2;split<;>simp;omega
theorem GH:∀q:Txt,q=q.take (q.length-(Q2 q).length)++Q2 q
 | []=>rfl
 | c::r=>by
  have hl:=zaI r
  have ih:=GH r
  unfold Q2
  split
  ·simp
  ·rw[show (c::r).length-(Q2 r).length=r.length-(Q2 r).length+1 by simp;omega,List.take_succ_cons,List.cons_append,←ih]
theorem GT:∀l:Txt,∃b,l=b++xP l∧∀c∈b,vV c=true
 | []=>⟨[],rfl,by simp⟩
 | c::r=>by
  unfold xP
  split
  ·rename_i h
   obtain⟨b,h1,h2⟩:=GT r
   grind
  simp
theorem zfx {l w:Txt} {ws:List Txt} (h:zR l=w::ws):xP l=w++Q2 (xP l):=by
 rw[zR,p7]at h
 cases hd:xP l with
 | nil=>simp_all[kA]
 | cons c r =>
  have hc:vV c=false:=by
   have:∀q:Txt,∀ {c r},xP q=c::r→vV c=false:=by
    intro q
    induction q with
    | nil=>intro c r e;cases e
    | cons x q ih =>
     grind [xP]
   grind
  rw[hd,kA,if_neg (by simp[hc]),List.nil_append,PO r [c] (by simp)]at h
  obtain⟨h1,_⟩:=List.cons.inj h
  have hs:=GH r
  have hw:Q2 (c::r)=Q2 r:=by rw[Q2,if_neg (by simp[hc])]
  grind
theorem zcE {l:Txt} {ws:List Txt} (h:zR l=zCX::ws):(l.drop ((Lib.index l zCX).toNat+4)).drop 1=V9 l:=by
 obtain⟨b,h1,h2⟩:=GT l
 have h3:=zfx h
 have hl:l=b++(zCX++Q2 (xP l)):=by grind
 have hocc:Lib.occAt l zCX b.length=true:=by
  grind [Lib.occAt]
 have hno:∀j,j<b.length→Lib.occAt l zCX j=false:=by
  intro j hj
  unfold Lib.occAt
  have hd:l.drop j=b[j]::l.drop (j+1):=by
   grind [List.drop_eq_getElem_cons]
  rw[hd]
  have hs:=h2 b[j] (List.getElem_mem hj)
  have hne:¬b[j]=116:=by
   intro e
   rw[e]at hs
   revert hs
   decide
  grind [zCX]
 have hi:=Lib.index_first (by rw[hl];simp) hocc hno
 rw[hi]
 unfold V9
 congr 1
 grind [Int.toNat_natCast,zCX]
end Go.Proofs.YtcgpcfcbienapaaGreatDoor
end
section
set_option maxRecDepth 100000
namespace Go.Proofs.YtcgpcfcbienapaaGreatDoor
open Go Go.Ab
open Classical
variable [Sel]
theorem zDP {a b:Made}:qN a=qN b↔a=b:=by
 cases a;cases b;simp[qN,ziF]
theorem KB {α β:Type} (f:α→β) (l:List α) (k:Nat) (h:k<l.length):(l.map f)[k]?=some (f l[k]):=by rw[List.getElem?_map,List.getElem?_eq_getElem h];rfl
theorem C0 {α:Type} {a b:List α} (hl:a.length=b.length) (h:∀i (h1:i<a.length) (h2:i<b.length),a[i]=b[i]):a=b:=List.ext_getElem hl fun i h1 h2=>h i h1 h2
end Go.Proofs.YtcgpcfcbienapaaGreatDoor
end
section
set_option maxRecDepth 100000
namespace Go.Proofs.YtcgpcfcbienapaaGreatDoor
open Go Go.Ab
open Classical
variable [Sel] [SelPow] [SelMax]
def zoT (w:Txt) (ws:List Txt):Bool :=
 if w=zCX then true
 else if w=zZ∨w=w8∨w=j8 then decide (ws.length=1)&&yV (ws.getD 0 [])
 else if w=jT then decide (ws.length=2)&&yV (ws.getD 0 [])
 else if w=yO∨w=wQ∨w=kG then decide (ws.length=1)
 else if w=wP∨w=y4∨w=kV∨w=kY∨w=yR then decide (ws.length=0)
 else false
def U4:List Txt→Bool
 | []=>true
 | w::_=>decide (w.head?=some 35)
def vH (l:List Txt):Bool:=U4 l||(match l with|[]=>true|w::ws=>zoT w ws)
theorem vB (s:Txt):(Z0 s=none)↔vH (zR s)=false:=by
 unfold Z0 vH U4
 cases hw:zR s with
 | nil=>simp
 | cons w ws =>
  simp only
  by_cases h1:w.head?=some 35
  ·simp[h1]
  ·rw[if_neg h1]
   simp only[h1,decide_false,Bool.false_or]
   unfold zoT jU
   grind
def y7 (kn:List KnV) (p:Txt) (s:StV):StV × KnV :=
 if p∉s.asked∧s.asked.length=500 then(yZ 6 s,kn0)
 else
  let s1:StV:=if p∈s.asked then s else { s with asked:=s.asked++[p] }
  match zQ kn p with
  | some k=>(s1,k)
  | none=>({ s1 with stop:=⟨1,p,[],0⟩ },kn0)
def ZS (rec:Txt→StV→List Txt→StV × List Txt) (w:Txt):List Txt→StV→List Txt→StV × List Txt
 | [],s,d=>(s,d)
 | x::r,s,d=>if s.stop.kind≠0 then(s,d) else match zR x with
  | [a,q]=>if a≠w∨yV q=false then ZS rec w r (yP (x++[10]) s) d
   else if q∈d then ZS rec w r s d
   else ZS rec w r (rec q s d).1 (rec q s d).2
  | _=>ZS rec w r (yP (x++[10]) s) d
def zdm (kn:List KnV) (w:Txt):Nat→Txt→StV→List Txt→StV × List Txt
 | 0,_,s,d=>(s,d)
 | n+1,p,s,d =>
  let s1:=(y7 kn p s).1
  let k:=(y7 kn p s).2
  if s1.stop.kind≠0 then(s1,d++[p])
  else if k.is=false then(yZ 10 s1,d++[p])
  else ZS (zdm kn w n) w (z7 k.data) s1 (d++[p])
structure CG (s:StV) (d:List Txt):Prop where
 stop:s.stop=do0
 nod:d.Nodup
 sub:∀p∈d,p∈s.asked
 len:s.asked.length≤500
theorem CG.dlen {s:StV} {d:List Txt} (h:CG s d):d.length≤500 :=
 Nat.le_trans (List.Nodup.length_le_of_subset h.nod h.sub) h.len
theorem zjM (env:List (Txt × Txt)) (kn:List KnV) (p:Txt) (co:CoV) (c:CfV) (h0:c.st.stop.kind=0) (hl:c.st.asked.length≤500) :
  (∃k,y7 kn p c.st=(if p∈c.st.asked then c.st else { c.st with asked:=c.st.asked++[p] },k)∧zQ kn p=some k∧(y7 kn p c.st).1.stop=c.st.stop∧p∈(y7 kn p c.st).1.asked∧(∀q∈c.st.asked,q∈(y7 kn p c.st).1.asked)∧(y7 kn p c.st).1.asked.length≤500∧
   Q7 env kn (VX p co c) (coS co k { c with st:=(y7 kn p c.st).1 }))∨
  ((y7 kn p c.st).1.stop.kind≠0∧∃td',Q7 env kn (VX p co c) ⟨td',(y7 kn p c.st).1,c.done⟩):=by
 unfold y7 VX
 by_cases hin:p∈c.st.asked
 ·simp only[hin,if_true,not_true,false_and,if_false]
  cases hf:zQ kn p with
  | some k =>
   left
   refine⟨k,rfl,rfl,rfl,hin,fun q h=>h,hl,?_⟩
   refine .step h0 ?_
   simp only[J6,hf]
   exact .refl _
  | none =>
   right
   refine⟨by simp,c.td,?_⟩
   refine .step h0 ?_
   simp only[J6,hf]
   exact .refl _
 ·simp only[hin,if_false,not_false_iff,true_and]
  by_cases h5:c.st.asked.length=500
  ·simp only[h5,if_true,Nat.le_refl]
   exact .inr ⟨by simp[yZ],c.td,.refl _⟩
  ·have h5':¬500≤c.st.asked.length:=by omega
   simp only[h5,h5',if_false]
   cases hf:zQ kn p with
   | some k =>
    left
    refine⟨k,rfl,rfl,rfl,by simp,fun q h=>by simp[h],by simp;omega,?_⟩
    refine .step h0 ?_
    simp only[J6,hf]
    exact .refl _
   | none =>
    right
    refine⟨by simp,c.td,?_⟩
    refine .step h0 ?_
    simp only[J6,hf]
    exact .refl _
theorem zk6 {t:Txt} {s:StV} {d:List Txt} (h:CG s d):(yP t s).asked=s.asked∧((yP t s).stop.kind=0→CG (yP t s) d):=by
 unfold yP
 split
 ·simp[yZ]
 ·exact⟨rfl,fun _=>⟨h.stop,h.nod,h.sub,h.len⟩⟩
structure zmT (env:List (Txt × Txt)) (kn:List KnV) (c:CfV) (td:List TdV) (d:List Txt) (r:StV × List Txt):Prop where
 pre:d <+: r.2
 go:r.1.stop.kind=0→CG r.1 r.2∧Q7 env kn c ⟨td,r.1,r.2⟩
 stop:r.1.stop.kind≠0→∃td' d',Q7 env kn c ⟨td',r.1,d'⟩
theorem uN {env:List (Txt × Txt)} {kn:List KnV} {w:Txt} {n:Nat} (rec:Txt→StV→List Txt→StV × List Txt)
  (hrec:∀(p:Txt) (s:StV) (d:List Txt) (td:List TdV),CG s d→p∉d→501-d.length≤n→zmT env kn (zb0 p w ⟨td,s,d⟩) td (d++[p]) (rec p s d)) :
  ∀(l:List Txt) (s:StV) (d:List Txt) (td:List TdV),CG s d→501-d.length≤n→zmT env kn ⟨(l.map fun x=>.line x w)++td,s,d⟩ td d (ZS rec w l s d)
 | [],s,d,td,hi,hn=>⟨List.prefix_refl _,fun _=>⟨hi,by simpa[ZS]using .refl _⟩,fun h=>by simp[ZS,hi.stop,do0]at h⟩
 | x::r,s,d,td,hi,hn=>by
  have hk0:s.stop.kind=0:=by rw[hi.stop];rfl
  have h0:¬s.stop.kind≠0:=by simp[hk0]
  have hstep:∀c',D4 x w ⟨(r.map fun x=>.line x w)++td,s,d⟩=c'→Q7 env kn ⟨((x::r).map fun x=>.line x w)++td,s,d⟩ c':=fun c' e=>by
   subst e
   exact .step hk0 (.refl _)
    -- a line is added
  have hadd:D4 x w ⟨(r.map fun x=>.line x w)++td,s,d⟩=⟨(r.map fun x=>.line x w)++td,yP (x++[10]) s,d⟩→zmT env kn ⟨((x::r).map fun x=>.line x w)++td,s,d⟩ td d (ZS rec w r (yP (x++[10]) s) d):=by
   intro e
   have hr:=hstep _ e
   by_cases hk:(yP (x++[10]) s).stop.kind=0
   ·have ih:=uN rec hrec r _ d td ((zk6 hi).2 hk) hn
    exact⟨ih.pre,fun h=>⟨(ih.go h).1,hr.trans (ih.go h).2⟩,fun h=>by obtain⟨td',d',h1⟩:=ih.stop h;exact⟨td',d',hr.trans h1⟩⟩
   ·have hv:ZS rec w r (yP (x++[10]) s) d=(yP (x++[10]) s,d):=by
     cases r with
     | nil=>rfl
     | cons y r=>rw[ZS,if_pos hk]
    rw[hv]
    exact⟨List.prefix_refl _,fun h=>absurd h hk,fun _=>⟨_,_,hr⟩⟩
  rw[ZS,if_neg h0]
  unfold D4 at hadd hstep
  generalize zR x=ws at hadd hstep ⊢
  rcases ws with _|⟨a,_|⟨q,_|⟨z,l⟩⟩⟩
  ·exact hadd rfl
  ·exact hadd rfl
  ·simp only at hadd hstep ⊢
   by_cases h1:a≠w∨yV q=false
   ·rw[if_pos h1];exact hadd (if_pos h1)
   rw[if_neg h1]at hstep ⊢
   by_cases h2:q∈d
   ·rw[if_pos h2]at hstep ⊢
    have hr:=hstep _ rfl
    have ih:=uN rec hrec r s d td hi hn
    exact⟨ih.pre,fun h=>⟨(ih.go h).1,hr.trans (ih.go h).2⟩,fun h=>by obtain⟨td',d',h1⟩:=ih.stop h;exact⟨td',d',hr.trans h1⟩⟩
   ·rw[if_neg h2]at hstep ⊢
    have hr:=hstep _ rfl
    have hs:=hrec q s d ((r.map fun x=>.line x w)++td) hi h2 hn
    have hpl:=hs.pre.length_le
    simp only[List.length_append,List.length_cons,List.length_nil]at hpl
    have hpd:d <+: (rec q s d).2:=(List.prefix_append d [q]).trans hs.pre
    by_cases hk:(rec q s d).1.stop.kind=0
    ·obtain⟨g1,g2⟩:=hs.go hk
     have ih:=uN rec hrec r (rec q s d).1 (rec q s d).2 td g1 (by omega)
     exact⟨hpd.trans ih.pre,fun h=>⟨(ih.go h).1,hr.trans (g2.trans (ih.go h).2)⟩,fun h=>by obtain⟨td',d',h1⟩:=ih.stop h;exact⟨td',d',hr.trans (g2.trans h1)⟩⟩
    ·obtain⟨td',d',g1⟩:=hs.stop hk
     have hv:ZS rec w r (rec q s d).1 (rec q s d).2=((rec q s d).1,(rec q s d).2):=by
      cases r with
      | nil=>rfl
      | cons y r=>rw[ZS,if_pos hk]
     rw[hv]
     exact⟨hpd,fun h=>absurd h hk,fun _=>⟨td',d',hr.trans g1⟩⟩
  ·exact hadd rfl
theorem zco {env:List (Txt × Txt)} {kn:List KnV} {w:Txt}:∀(n:Nat) (p:Txt) (s:StV) (d:List Txt) (td:List TdV),CG s d→p∉d→501-d.length≤n→zmT env kn (zb0 p w ⟨td,s,d⟩) td (d++[p]) (zdm kn w n p s d)
 | 0,p,s,d,td,hi,hp,hn=>by have:=hi.dlen;omega
 | n+1,p,s,d,td,hi,hp,hn=>by
  have hk0:s.stop.kind=0:=by rw[hi.stop];rfl
  have ha:=zjM env kn p (.there (.scan w)) ⟨td,s,d++[p]⟩ hk0 hi.len
  have hsc:zb0 p w ⟨td,s,d⟩=VX p (.there (.scan w)) ⟨td,s,d++[p]⟩:=rfl
  rw[hsc]
  rw[zdm]
  rcases ha with⟨k,h1,h2,h3,h4,h5,h6,h7⟩|⟨h1,td',h2⟩
  ·simp only at h1 h3 h4 h5 h6 h7
   have hk:(y7 kn p s).2=k:=by rw[h1]
   have hst:¬(y7 kn p s).1.stop.kind≠0:=by simp_all
   rw[if_neg hst,hk]
   have hi2:CG (y7 kn p s).1 (d++[p]):=by
    refine⟨h3.trans hi.stop,?_,?_,h6⟩
    ·refine List.nodup_append.2 ⟨hi.nod,by simp,fun a ha c hc=>?_⟩
     grind
    ·intro q hq
     rcases List.mem_append.1 hq with hq|hq
     ·exact h5 q (hi.sub q hq)
     simp_all
   cases his:k.is with
   | false =>
    rw[if_pos rfl]
    refine⟨List.prefix_refl _,fun e=>by grind [yZ],fun _=>⟨td,d++[p],?_⟩⟩
    simp_all[coS,CfV.map]
   | true =>
    rw[if_neg (by decide)]
    have:coS (.there (.scan w)) k ⟨td,(y7 kn p s).1,d++[p]⟩=⟨((z7 k.data).map fun x=>.line x w)++td,(y7 kn p s).1,d++[p]⟩:=by
     grind [coS,thS]
    rw[this]at h7
    have ih:=uN (env:=env) (kn:=kn) (w:=w) (n:=n) (zdm kn w n) (fun p s d td a b c=>zco n p s d td a b c) (z7 k.data) (y7 kn p s).1 (d++[p]) td hi2 (by grind)
    exact⟨ih.pre,fun h=>⟨(ih.go h).1,h7.trans (ih.go h).2⟩,fun h=>by obtain⟨td',d',h1⟩:=ih.stop h;exact⟨td',d',h7.trans h1⟩⟩
  ·simp only at h1 h2
   rw[if_pos h1]
   exact⟨List.prefix_refl _,fun e=>absurd e h1,fun _=>⟨td',d++[p],h2⟩⟩
def ccR (r:zCT):Nat:=r.todo.countP isC
structure Ef (b:Bool) (r r':zCT):Prop where
 en:r'.env=r.env
 cc:ccR r'=ccR r
 ov:r'.over=r.over∨(r'.over.kind=4∧r'.over.why≠0)∨(b=true∧r'.over.kind=2∧r'.over.why=0)
 wo:r.waits=false→r'.waits=true→r'.over=r.over
theorem Ef.refl {b:Bool} (r:zCT):Ef b r r:=⟨rfl,rfl,.inl rfl,fun _ _=>rfl⟩
theorem Ef.same {b:Bool} {r r':zCT} (h1:r'.env=r.env) (h2:r'.todo=r.todo) (h3:r'.over=r.over):Ef b r r':=⟨h1,by grind [ccR],.inl h3,fun _ _=>h3⟩
theorem Ef.fail {b:Bool} (e:Int) (r:zCT) (he:e≠0:=by decide):Ef b r (wC e r):=⟨rfl,rfl,.inr (.inl ⟨rfl,he⟩),fun h1 h2=>by simp_all[wC]⟩
theorem Ef.add {b:Bool} (t:Txt) (r:zCT):Ef b r (wW t r):=by
 unfold wW
 split
 ·simp[fail]
 simp[same]
theorem Ef.lines {b:Bool} (t:List Txt) (r:zCT):Ef b r (kS t r):=by
 have h:=Ef.add (b:=b) (t.flatMap (·++[10])) { r with buf:=[] }
 exact⟨h.en,h.cc,h.ov,h.wo⟩
theorem zhk (w:Txt) (l:List Txt):(l.map fun s=>TdV.line s w).countP isC=0:=by
 simp[isC]
theorem Ef.co {b:Bool} (k:CoV) (x:KnV) (r:zCT):Ef b r (coR k x r):=by
 cases hx:x.is with
 | false =>
  cases k with
  | tr=>simp_all[coR,refl]
  | there t=>grind [coR,fail]
 | true =>
  cases k with
  | tr=>grind [coR,add]
  | there t=>cases t with
   | add=>grind [coR,add,thR]
   | scan w =>
    rw[show coR (.there (.scan w)) x r={ r with todo:=r.todo++(z7 x.data).reverse.map fun s=>.line s w } by simp[coR,hx,thR]]
    exact⟨rfl,by have:=zhk w (z7 x.data).reverse;simp_all[ccR],.inl rfl,fun _ _=>rfl⟩
theorem Ef.ask {b:Bool} (p:Txt) (k:CoV) (r:zCT):Ef b r (Q6 p k r):=by
 unfold Q6
 split
 ·simp[co]
 ·split
  ·simp[fail]
  ·exact⟨rfl,by simp[ccR,isC],.inl rfl,fun _ _=>rfl⟩
theorem Ef.scan {b:Bool} (p w:Txt) (r:zCT):Ef b r (ZL p w r):=by
 have h:=Ef.ask (b:=b) p (.there (.scan w)) { r with seen:=r.seen++[p] }
 exact⟨h.en,h.cc,h.ov,h.wo⟩
theorem Ef.line {b:Bool} (s w:Txt) (r:zCT):Ef b r (Z1 s w r):=by
 grind [Z1,add,refl,scan]
theorem Ef.turn {b:Bool} (n a:Txt) (r:zCT):Ef b r (wK n a r):=by
 unfold wK
 split
 ·simp[lines]
 split
 ·simp[lines]
 split
 ·simp[same]
 split
 ·simp[same]
 grind [lines,refl]
theorem Ef.cmd (c:CmdV) (r:zCT):Ef true r (doR c r):=by
 unfold doR
 simp only
 split
 ·simp[ask]
 split
 ·simp[ask]
 split
 ·have h:=Ef.scan (b:=true) (c.words.getD 1 []) (c.words.getD 2 []) { r with seen:=[] }
  exact⟨h.en,h.cc,h.ov,h.wo⟩
 split
 ·simp[add]
 split
 ·grind [add,fail]
 split
 ·exact⟨rfl,rfl,.inr (.inr ⟨rfl,rfl,rfl⟩),fun h1 h2=>by simp_all⟩
 grind [refl,fail,turn]
structure zg9 (r r':zCT):Prop where
 en:r'.env=r.env
 cc:ccR r'≤ccR r
 ov:r'.over=r.over∨r'.over=⟨3,[],[],0⟩∨(r'.over.kind=4∧r'.over.why≠0)∨(r'.over.kind=2∧r'.over.why=0∧ccR r'<ccR r)
 wo:r.waits=false→r'.waits=true→r'.over=r.over
theorem zgh (r:zCT):zg9 r (QL r):=by
 rcases List.eq_nil_or_concat r.todo with ht|⟨l,t,ht⟩
 ·rw[KT ht]
  exact⟨rfl,Nat.le_refl _,.inr (.inl rfl),fun h1 h2=>by simp_all⟩
 ·rw[List.concat_eq_append]at ht
  rw[KV ht]
  have hc:ccR r=ccR { r with todo:=l }+if isC t=true then 1 else 0:=by
   simp_all[ccR]
  have go:∀ {r':zCT},Ef false { r with todo:=l } r'→zg9 r r':=fun h=>by
   refine⟨h.en,by rw[h.cc];omega,?_,h.wo⟩
   rcases h.ov with h|h|⟨h,_⟩
   ·exact .inl h
   ·omega
   ·cases h
  cases t with
  | cmd c =>
   have h:=Ef.cmd c { r with todo:=l }
   have hc':ccR r=ccR { r with todo:=l }+1:=hc
   refine⟨h.en,?_,?_,h.wo⟩
   ·have:=h.cc;simp_all[tdR]
   ·rcases h.ov with h1|h1|⟨_,h1,h9⟩
    ·exact .inl h1
    ·exact .inr (.inr (.inl h1))
    ·refine .inr (.inr (.inr ⟨h1,h9,?_⟩))
     have:=h.cc;simp_all[tdR]
  | line s w=>exact go (.line _ _ _)
  | ans k p=>exact go (.co _ _ _)
def OV (r:zCT):Prop:=(r.over=do0∨(r.over.kind=2∧r.over.why=0)∨r.over=⟨3,[],[],0⟩∨(r.over.kind=4∧r.over.why≠0))∧(r.waits=true→r.over=do0)
theorem OV.zero {r:zCT} (h:OV r) (h0:r.over.kind=0):r.over=do0:=by
 rcases h.1 with h|⟨h,_⟩|h|⟨h,_⟩
 ·exact h
 ·omega
 ·simp_all
 omega
theorem zg9.ovk {r r':zCT} (h:zg9 r r') (h0:OV r) (hk:r.over.kind=0) (hw:r.waits=false):OV r':=by
 have hd:=h0.zero hk
 refine⟨?_,fun e=>(h.wo hw e).trans hd⟩
 rcases h.ov with h1|h1|h1|⟨h1,h9,_⟩
 ·simp_all
 ·simp_all
 ·omega
 omega
theorem zaK {r:zCT} (h:¬kL r=true):r.over.kind=0∧r.waits=false:=by
 simp_all[kL]
theorem zaM (env:List (Txt × Txt)) {kn:List KnV} (wr:List DoV):∀(n:Nat) {r r':zCT},runN n r=some r'→JF r→OV r→r.env=env→r.known <+: kn→
  Q7 env kn (jV wr r) (jV wr r')∧OV r'∧r'.env=env∧ccR r'≤ccR r∧(r.over.kind=0→r'.over.kind=2→ccR r'<ccR r)
 | 0,r,r',h,_,_,_,_=>by cases h
 | n+1,r,r',h,hi,ho,he,hk=>by
  rw[runN]at h
  by_cases hs:kL r=true
  ·rw[if_pos hs]at h
   cases h
   exact⟨.refl _,ho,he,Nat.le_refl _,fun h1 h2=>by omega⟩
  ·rw[if_neg hs]at h
   obtain⟨h0,hw⟩:=zaK hs
   have hse:=zgh r
   have hst:=gV hi (by simp_all)
   obtain⟨g1,g2,g3,g4,g5⟩:=zaM env wr n h hst.1 (hse.ovk ho h0 hw) (hse.en.trans he) (by rw[hst.2.2];exact hk)
   refine⟨(zgD env wr hi he hk hw (ho.zero h0)).trans g1,g2,g3,Nat.le_trans g4 hse.cc,fun _ h2=>?_⟩
   have stuck:(QL r).over.kind≠0→r'=QL r:=fun h1=>by
    have hst2:kL (QL r)=true:=by simp[kL,h1]
    cases n with
    | zero=>cases h
    | succ n=>simp_all[runN]
   rcases hse.ov with h1|h1|⟨h1,_⟩|⟨h1,_,h3⟩
   ·exact Nat.lt_of_lt_of_le (g5 (by simp_all) h2) hse.cc
   ·simp_all
   ·simp_all
   ·omega
theorem p9 {r:zCT} (h:kL r=true):kI r=r:=by
 simp_all[kI,runN]
structure AtR (env:List (Txt × Txt)) (c0:CfV) (kn:List KnV) (wr:List DoV) (r:zCT):Prop where
 inv:JF r
 ov:OV r
 en:r.env=env
 kno:r.known=kn
 runs:∀kn',kn <+: kn'→Q7 env kn' c0 (jV wr r)
theorem AtR.settle {env:List (Txt × Txt)} {c0:CfV} {kn:List KnV} {wr:List DoV} {r:zCT} (h:AtR env c0 kn wr r):AtR env c0 kn wr (kI r)∧ccR (kI r)≤ccR r∧(r.over.kind=0→(kI r).over.kind=2→ccR (kI r)<ccR r):=by
 obtain⟨h1,h2,h3,h4⟩:=yW h.inv
 have hr:=fun kn' (hk:kn <+: kn')=>zaM env wr _ h1 h.inv h.ov h.en (kn:=kn') (by rw[h.kno];exact hk)
 obtain⟨_,g2,g3,g4,g5⟩:=hr kn (List.prefix_refl _)
 exact⟨⟨h2,g2,g3,h4.trans h.kno,fun kn' hk=>(h.runs kn' hk).trans (hr kn' hk).1⟩,g4,g5⟩
structure JB (env:List (Txt × Txt)) (c0:CfV) (kn:List KnV) (wr:List DoV) (r:zCT) (d:DoV):Prop where
 at_:AtR env c0 kn wr r
 stops:kL r=true
 no2:r.over.kind≠2
 waits:d.kind=1↔r.waits=true
 asks:r.waits=true→d=⟨1,r.asks,[],0⟩
 over:r.waits=false→d=r.over
 ref:∃c,Q7 env kn c0 c∧c.st.stop=d∧c.st.stop.kind≠0∧c.st.wrote=wr
theorem AtR.next {env:List (Txt × Txt)} {c0:CfV} {kn:List KnV} {wr:List DoV} {r:zCT} (h:AtR env c0 kn wr r) (h0:r.over.kind≠2) :
  ((w9 r).1.kind=2∧AtR env c0 kn (wr++[(w9 r).1]) (w9 r).2∧ccR (w9 r).2<ccR r∧(w9 r).2.over.kind=0)∨JB env c0 kn wr (w9 r).2 (w9 r).1:=by
 obtain⟨hs,hc,hc2⟩:=h.settle
 have hst:=(yW h.inv).2.2.1
 obtain⟨s,hse⟩:∃s,s=kI r:=⟨_,rfl⟩
 have hn:w9 r=(if s.waits=true then(⟨1,s.asks,[],0⟩,s) else(s.over,if s.over.kind=2 then { s with over:=do0 } else s)):=by rw[hse];rfl
 have hr0:s.over.kind=2→r.over.kind=0:=fun h2=>by
  apply Classical.byContradiction
  grind [kL,p9]
 rw[←hse]at hs hc hc2 hst
 rw[hn]
 by_cases hw:s.waits=true
 ·rw[if_pos hw]
  have ho:=hs.ov.2 hw
  rcases hs.inv with⟨_,h2⟩|⟨l,k,p,e,h2,h3,h4,_⟩
  ·simp_all
  ·obtain⟨g1,g2,g3⟩:=h4 hw
   refine .inr ⟨hs,hst,by rw[ho];decide,by simp[hw],fun _=>rfl,fun e=>(by simp_all),?_⟩
   have htd:(jV wr s).td=.ans k p::l.reverse:=by simp[jV,e]
   have hso:(jV wr s).st.stop=do0:=by simp[jV,ho,do0]
   refine⟨_,(hs.runs kn (List.prefix_refl _)).trans (.step (by rw[hso];rfl) (.refl _)),?_⟩
   have hf:zQ kn p=none:=by rw[←hs.kno];exact g2
   simp_all[J6,CfV.map,jV,do0]
 ·rw[if_neg hw]
  have hw':s.waits=false:=by simp_all
  have hk0:s.over.kind≠0:=by
   simp_all[kL]
  by_cases h2:s.over.kind=2
  ·rw[if_pos h2]
   refine .inl ⟨h2,⟨?_,⟨.inl rfl,fun _=>rfl⟩,hs.en,hs.kno,fun kn' hk=>?_⟩,hc2 (hr0 h2) h2,rfl⟩
   ·exact hs.inv.of_same rfl rfl rfl rfl rfl rfl
   ·have:=hs.runs kn' hk
    simp_all[jV,do0]
  ·rw[if_neg h2]
   refine .inr ⟨hs,hst,h2,?_,fun e=>absurd e hw,fun _=>rfl,jV wr s,hs.runs kn (List.prefix_refl _),by simp[jV,h2],by simp_all[jV],by simp[jV,h2]⟩
   constructor
   ·intro e1
    rcases hs.ov.1 with h|⟨h,_⟩|h|⟨h,_⟩
    ·rw[h]at e1;cases e1
    ·omega
    ·simp_all
    simp_all
   simp_all
theorem JB.give {env:List (Txt × Txt)} {c0:CfV} {kn:List KnV} {wr:List DoV} {r:zCT} {d:DoV} (h:JB env c0 kn wr r d) (k:KnV) (hw:r.waits=true) (hp:k.path=r.asks) (hd:k.is=true→k.data.length≤65536) :
  (QB k r).1=0∧AtR env c0 (kn++[k]) wr (QB k r).2∧(QB k r).2.over.kind=0∧ccR (QB k r).2=ccR r:=by
 have hi:=zae h.at_.inv k (fun h=>by grind)
 have ho:=h.at_.ov.2 hw
 have hg:QB k r=(0,{ r with known:=r.known++[k],asks:=[],waits:=false }):=by
  unfold QB
  simp only[p9 h.stops]
  simp_all
 rw[hg]at hi ⊢
 refine⟨rfl,⟨hi,⟨.inl ho,fun e=>by cases e⟩,h.at_.en,by simp only[h.at_.kno],fun kn' hk=>?_⟩,by simp only[ho];rfl,rfl⟩
 have:=h.at_.runs kn' ((List.prefix_append kn [k]).trans hk)
 simp_all[jV]
end Go.Proofs.YtcgpcfcbienapaaGreatDoor
end
section
set_option maxRecDepth 100000
namespace Go.Proofs.YtcgpcfcbienapaaGreatDoor
open Go Go.Ab
open Classical
variable [Sel]
def zero32:List UInt8:=List.replicate 32 0
structure U1 where
 path:List UInt8
 data:List UInt8
deriving DecidableEq
structure zcy where
 kind:Int
 why:Int
 outs:List U1
 reads:List Read
def jZ (f:U1):AV:=.agg [.s f.path,.s f.data]
def zU (l:List U1):AV:=.sl .no (l.map jZ)
def zI (o:zcy):AV:=.agg [.i .i64 o.kind,.i .i64 o.why,zU o.outs,qF o.reads]
@[simp] theorem zfq (f:U1):(jZ f).er=jZ f:=by simp[jZ,AV.er,AV.ers]
@[simp] theorem zdW (l:List U1):(zU l).er=zU l:=by simp[zU,AV.er,AV.ers_eq,Function.comp_def]
@[simp] theorem KO (o:zcy):(zI o).er=zI o:=by simp[zI,AV.er,AV.ers]
@[simp] theorem znl (x:U1):(jZ x).erk=jZ x:=kH _ (zfq x)
@[simp] theorem zlu (x:List U1):(zU x).erk=zU x:=kH _ (zdW x)
@[simp] theorem zoi (x:zcy):(zI x).erk=zI x:=kH _ (KO x)

@[simp] theorem zx1:qZ Tryz.prog 30=true:=by kernel_rfl
@[simp] theorem zxo:z8 Tryz.prog (.func 30)=false:=q9 zx1
theorem zFA (l:List Read) (hl:l.length≤1000):PC Tryz.prog 30 [.av (.slice 54) (qF l)] (.av (.slice 54) (qF l)):=by
 refine zow Tryz.func30 cf0 fun imm0 w0=>?_
 simp (disch:=omega) [zz,qF]
 refine⟨?_,?_⟩
 ·intro h
  subst h
  simp (disch:=omega) [zz,Tryz.f30]
 ·simp (disch:=omega) [zz,wB,Tryz.f30]
  exact⟨by omega,by omega,by simp[AV.ers_eq,Function.comp_def]⟩
def wi (x:UInt32):Int:=x.toNat
abbrev w6 (w:UInt32):AV:=.i .u32 (wi w)
theorem dM {n:Nat} (h:n<4294967296):IntKind.u32.wrap (n:Int)=n:=by
 simp[IntKind.wrap,IntKind.signed,IntKind.bits];omega
theorem zEd (x:UInt32):BitVec.ofInt IntKind.u32.bits (wi x)=x.toBitVec:=by
 apply BitVec.eq_of_toNat_eq
 show (BitVec.ofInt 32 (x.toNat:Int)).toNat=_
 simp
 rfl
theorem UQ (x y:UInt32):IntKind.u32.wrap (wi x+wi y)=wi (x+y):=by
 have:=x.toNat_lt;have:=y.toNat_lt
 simp[wi,IntKind.wrap,IntKind.signed,IntKind.bits,UInt32.toNat_add]
theorem wor (x y:UInt32):IntKind.u32.wrap ((BitVec.ofInt IntKind.u32.bits (wi x) ||| BitVec.ofInt IntKind.u32.bits (wi y)).toNat:Int)=wi (x ||| y):=by
 rw[zEd,zEd,dM (BitVec.isLt _)];rfl
theorem VI (x y:UInt32):IntKind.u32.wrap ((BitVec.ofInt IntKind.u32.bits (wi x) ^^^ BitVec.ofInt IntKind.u32.bits (wi y)).toNat:Int)=wi (x ^^^ y):=by
 rw[zEd,zEd,dM (BitVec.isLt _)];rfl
theorem pL (x y:UInt32):IntKind.u32.wrap ((BitVec.ofInt IntKind.u32.bits (wi x) &&& BitVec.ofInt IntKind.u32.bits (wi y)).toNat:Int)=wi (x &&& y):=by
 rw[zEd,zEd,dM (BitVec.isLt _)];rfl
theorem pC (x:UInt32):IntKind.u32.wrap ((BitVec.ofInt IntKind.u32.bits (if IntKind.u32.signed then -1 else IntKind.u32.max) ^^^ BitVec.ofInt IntKind.u32.bits (wi x)).toNat:Int)=wi (~~~ x):=by
 rw[zEd,dM (BitVec.isLt _)]
 unfold wi
 show ((BitVec.ofInt 32 4294967295 ^^^ x.toBitVec).toNat:Int)=((~~~ x.toBitVec).toNat:Int)
 rw[show BitVec.ofInt 32 4294967295=BitVec.allOnes 32 from by decide,BitVec.allOnes_xor]
theorem zpA (x:UInt32) {n:Nat} (h:n<32):(wi x).fdiv (2 ^ n)=wi (x >>> UInt32.ofNat n):=by
 have e:(x >>> UInt32.ofNat n).toNat=x.toNat / 2 ^ n:=by
  rw[UInt32.toNat_shiftRight,UInt32.toNat_ofNat_of_lt' (by rw[UInt32.size];omega),Nat.mod_eq_of_lt (by omega),Nat.shiftRight_eq_div_pow]
 unfold wi
 rw[e,Int.fdiv_eq_ediv_of_nonneg _ (Int.le_of_lt (Int.pow_pos (by omega)))]
 norm_cast
theorem zp4 (x:UInt32) {n:Nat} (h:n<32):IntKind.u32.wrap (wi x*2 ^ n)=wi (x <<< UInt32.ofNat n):=by
 have e:(x <<< UInt32.ofNat n).toNat=(x.toNat*2 ^ n) % 4294967296:=by
  rw[UInt32.toNat_shiftLeft,UInt32.toNat_ofNat_of_lt' (by rw[UInt32.size];omega),Nat.mod_eq_of_lt (by omega:n<32),Nat.shiftLeft_eq]
 unfold wi
 rw[e]
 simp[IntKind.wrap,IntKind.signed,IntKind.bits]
theorem ziD {n:Nat} (h:n<32):min n IntKind.u32.bits=n:=by simp[IntKind.bits];omega
theorem uU (x:UInt32) {n:Nat} (h:n<32):(wi x).fdiv (2 ^ (min n IntKind.u32.bits))=wi (x >>> UInt32.ofNat n):=by rw[ziD h,zpA x h]
theorem zp0 (x:UInt32) {n:Nat} (h:n<32):IntKind.u32.wrap (wi x*2 ^ (min n IntKind.u32.bits))=wi (x <<< UInt32.ofNat n):=by rw[ziD h,zp4 x h]
theorem zoV (b:UInt8):IntKind.u32.wrap (b.toNat:Int)=wi b.toUInt32:=by
 have:=b.toNat_lt
 rw[dM (by omega)];simp[wi]
theorem zrH (x:UInt32):IntKind.u8.wrap (wi x)=(x.toUInt8.toNat:Int):=by
 simp[wi,IntKind.wrap,IntKind.signed,IntKind.bits]
def XD (x:UInt32) (n:Nat):UInt32:=(x >>> UInt32.ofNat n) ||| (x <<< UInt32.ofNat (32-n))
theorem zaA {n:Nat} (h:n<4294967296):IntKind.u64.wrap (n:Int)=n:=by
 simp[IntKind.wrap,IntKind.signed,IntKind.bits];omega
theorem zp6 {n:Nat} (h:n<32):(BitVec.ofInt 64 (n:Int) &&& 31#64).toNat=n:=by
 have e:(BitVec.ofInt 64 (n:Int)).toNat=n:=by simp;omega
 rw[BitVec.toNat_and,e]
 have:=Nat.and_two_pow_sub_one_eq_mod n 5
 simp only[Nat.reducePow,Nat.reduceSub]at this
 show n &&& 31=n
 rw[this];omega
def zf4 (a b c d:UInt8):UInt32:=((a.toUInt32 <<< 24) ||| (b.toUInt32 <<< 16) ||| (c.toUInt32 <<< 8)) ||| d.toUInt32
theorem zbC (a b c d:UInt8):((((((0:UInt32) <<< 8 ||| a.toUInt32) <<< 8) ||| b.toUInt32) <<< 8 ||| c.toUInt32) <<< 8) ||| d.toUInt32=zf4 a b c d:=by
 unfold zf4
 apply UInt32.toBitVec_inj.1
 ext i hi
 simp
 grind
def k64:List UInt32:=[0x428a2f98,0x71374491,0xb5c0fbcf,0xe9b5dba5,0x3956c25b,0x59f111f1,0x923f82a4,0xab1c5ed5,0xd807aa98,0x12835b01,0x243185be,
 0x550c7dc3,0x72be5d74,0x80deb1fe,0x9bdc06a7,0xc19bf174,0xe49b69c1,0xefbe4786,0x0fc19dc6,0x240ca1cc,0x2de92c6f,0x4a7484aa,
 0x5cb0a9dc,0x76f988da,0x983e5152,0xa831c66d,0xb00327c8,0xbf597fc7,0xc6e00bf3,0xd5a79147,0x06ca6351,0x14292967,0x27b70a85,
 0x2e1b2138,0x4d2c6dfc,0x53380d13,0x650a7354,0x766a0abb,0x81c2c92e,0x92722c85,0xa2bfe8a1,0xa81a664b,0xc24b8b70,0xc76c51a3,
 0xd192e819,0xd6990624,0xf40e3585,0x106aa070,0x19a4c116,0x1e376c08,0x2748774c,0x34b0bcb5,0x391c0cb3,0x4ed8aa4a,0x5b9cca4f,
 0x682e6ff3,0x748f82ee,0x78a5636f,0x84c87814,0x8cc70208,0x90befffa,0xa4506ceb,0xbef9a3f7,0xc67178f2]
def h8:List UInt32:=[0x6a09e667,0xbb67ae85,0x3c6ef372,0xa54ff53a,0x510e527f,0x9b05688c,0x1f83d9ab,0x5be0cd19]
@[simp] theorem zGa:qZ Tryz.prog 93=true:=by kernel_rfl
@[simp] theorem zGA:z8 Tryz.prog (.func 93)=false:=q9 zGa
@[simp] theorem zkQ:qZ Tryz.prog 128=true:=by kernel_rfl
@[simp] theorem zq1:z8 Tryz.prog (.func 128)=false:=q9 zkQ
@[simp] theorem zG4:qZ Tryz.prog 91=true:=by kernel_rfl
@[simp] theorem zs0:z8 Tryz.prog (.func 91)=false:=q9 zG4
@[simp] theorem zo5:qZ Tryz.prog 58=true:=by kernel_rfl
@[simp] theorem zrN:z8 Tryz.prog (.func 58)=false:=q9 zo5

theorem zlQ (x:UInt32) (n:Nat) (h0:0<n) (h:n<32):PC Tryz.prog 128 [.av (.int .u32) (w6 x),.av (.int .i64) (.i .i64 ((32-n:Nat):Int))] (.av (.int .u32) (w6 (XD x n))):=by
 have e1:IntKind.u64.wrap ((32-n:Nat):Int)=((32-n:Nat):Int):=zaA (by omega)
 have e4:(BitVec.ofInt IntKind.u64.bits ((32-n:Nat):Int) &&& BitVec.ofInt IntKind.u64.bits 31).toNat=32-n:=zp6 (by omega)
 have e5:IntKind.u64.wrap (32-((32-n:Nat):Int))=(n:Int):=by
  have:(32-((32-n:Nat):Int))=(n:Int):=by omega
  rw[this];exact zaA (by omega)
 have s1:=uU x h
 have s2:=zp0 x (show 32-n<32 by omega)
 have hc:XD x n=(x <<< UInt32.ofNat (32-n)) ||| (x >>> UInt32.ofNat n):=UInt32.or_comm _ _
 refine zow Tryz.func128 cf0 fun imm0 w0=>?_
 have e4':(BitVec.ofNat IntKind.u64.bits (32-n) &&& 31#IntKind.u64.bits).toNat=32-n:=by rw[←BitVec.ofInt_natCast];exact e4
 simp[e1,e4',e5,Tryz.f128,s1,s2,wor,hc,-BitVec.toNat_or,-BitVec.toNat_and]

theorem kO (x:UInt32) (n:Nat) (h0:0<n) (h:n<32):PC Tryz.prog 93 [.av (.int .u32) (w6 x),.av (.int .i64) (.i .i64 n)] (.av (.int .u32) (w6 (XD x n))):=by
 have e1:IntKind.i64.wrap (32-(n:Int))=((32-n:Nat):Int):=by rw[i64_in (by omega) (by omega)];omega
 refine zow Tryz.func93 cf0 fun imm0 w0=>?_
 simp[e1]
 refine UE (r:=.av (.int .u32) (w6 (XD x n))) rfl (by simp[qQ]) (by simp) ?_ ?_
 ·have:=zlQ x n h0 h
  simpa[TV.er,AV.er]using this
 ·simp[Tryz.f93]

def X1 (l:List UInt8):AV:=.sl .no (l.map fun b=>.i .u8 b.toNat)
@[simp] theorem zib (l:List UInt8):(X1 l).er=X1 l:=by simp[X1,AV.er,AV.ers_eq,Function.comp_def]
@[simp] theorem zoP (l:List UInt8):(X1 l).erk=X1 l:=kH _ (zib l)
theorem V4:PC Tryz.prog 91 [] (.av (.arr 64 122) (.agg (k64.map w6))):=by
 refine zow Tryz.func91 cf0 fun imm0 w0=>?_
 simp[Tryz.f91,k64,wi]
theorem zjO:PC Tryz.prog 58 [] (.av (.arr 8 122) (.agg (h8.map w6))):=by
 refine zow Tryz.func58 cf0 fun imm0 w0=>?_
 simp[Tryz.f58,h8,wi]
def lo (x:UInt32):UInt32:=XD x 7 ^^^ XD x 18 ^^^ x >>> UInt32.ofNat 3
def hi (x:UInt32):UInt32:=XD x 17 ^^^ XD x 19 ^^^ x >>> UInt32.ofNat 10
def zgk (w:List UInt32):UInt32:=w[w.length-16]?.getD 0+lo (w[w.length-15]?.getD 0)+w[w.length-7]?.getD 0+hi (w[w.length-2]?.getD 0)
def zhT (b:List UInt8) (n:Nat):UInt32:=zf4 (b.getD (4*n) 0) (b.getD (4*n+1) 0) (b.getD (4*n+2) 0) (b.getD (4*n+3) 0)
def Q1 (b:List UInt8):Nat→List UInt32
 | 0=>[]
 | n+1=>Q1 b n++[if n<16 then zhT b n else zgk (Q1 b n)]
@[simp] theorem YM (b:List UInt8) (n:Nat):(Q1 b n).length=n:=by
 induction n with
 | zero=>rfl
 | succ n ih=>simp[Q1,ih]
def G8:List UInt32→UInt32→UInt32→List UInt32
 | [v0,v1,v2,v3,v4,v5,v6,v7],k,w =>
  [v7+(XD v4 6 ^^^ XD v4 11 ^^^ XD v4 25)+(v4 &&& v5 ^^^ ~~~v4 &&& v6)+k+w+((XD v0 2 ^^^ XD v0 13 ^^^ XD v0 22)+(v0 &&& v1 ^^^ v0 &&& v2 ^^^ v1 &&& v2)),v0,v1,v2,
   v3+(v7+(XD v4 6 ^^^ XD v4 11 ^^^ XD v4 25)+(v4 &&& v5 ^^^ ~~~v4 &&& v6)+k+w),v4,v5,v6]
 | _,_,_=>[]
def rnd (b:List UInt8) (v:List UInt32):Nat→List UInt32
 | 0=>v
 | n+1=>G8 (rnd b v n) (k64[n]?.getD 0) ((Q1 b 64)[n]?.getD 0)
theorem zjt {l:List UInt32} (h:l.length=8):∃v0 v1 v2 v3 v4 v5 v6 v7,l=[v0,v1,v2,v3,v4,v5,v6,v7]:=by
 match l,h with
 | [v0,v1,v2,v3,v4,v5,v6,v7],_=>exact⟨v0,v1,v2,v3,v4,v5,v6,v7,rfl⟩
theorem uE {b:List UInt8} {v:List UInt32} (h:v.length=8):∀n,(rnd b v n).length=8
 | 0=>h
 | n+1=>by
  obtain⟨v0,v1,v2,v3,v4,v5,v6,v7,e⟩:=zjt (uE (b:=b) h n)
  simp[rnd,e,G8]
def jR (h:List UInt32) (b:List UInt8):List UInt32:=List.zipWith (·+·) h (rnd b h 64)
theorem KJ {b:List UInt8} {v:List UInt32} (h:v.length=8):(jR v b).length=8:=by
 simp[jR,h,uE h]

theorem zul {b:List UInt8} {i:Nat} (h:4*i+4≤b.length):(b.take (4*i+4)).drop (4*i)=[b.getD (4*i) 0,b.getD (4*i+1) 0,b.getD (4*i+2) 0,b.getD (4*i+3) 0]:=by
 apply List.ext_getElem
 ·simp;omega
 ·intro n h1 h2
  simp at h1 h2
  have:n=0∨n=1∨n=2∨n=3:=by omega
  rcases this with rfl|rfl|rfl|rfl<;>simp[List.getElem?_eq_getElem,show 4*i<b.length by omega,show 4*i+1<b.length by omega,show 4*i+2<b.length by omega,show 4*i+3<b.length by omega]
abbrev K3 (b:UInt8):AV:=.i .u8 b.toNat
def xD (n:Nat):Nat:=(55+64-n % 64) % 64
theorem zba (n:Nat):(n+1+xD n) % 64=56:=by unfold xD;omega
theorem zgX {n k:Nat} (h:k<xD n):(n+1+k) % 64≠56:=by unfold xD at h;omega
theorem zm1 (n:Nat):xD n<64:=by unfold xD;omega
def W9 (n:Nat):List UInt8:=[UInt8.ofNat (n*8 / 2 ^ 56),UInt8.ofNat (n*8 / 2 ^ 48),UInt8.ofNat (n*8 / 2 ^ 40),UInt8.ofNat (n*8 / 2 ^ 32),UInt8.ofNat (n*8 / 2 ^ 24),UInt8.ofNat (n*8 / 2 ^ 16),UInt8.ofNat (n*8 / 2 ^ 8),UInt8.ofNat (n*8)]
def K2 (l:List UInt8):List UInt8:=l++[128]++List.replicate (xD l.length) 0++W9 l.length
theorem zeC (l:List UInt8):(K2 l).length % 64=0:=by
 have:=zba l.length
 simp[K2,W9];omega
theorem zhj (N:Nat):∀j,j<8→(W9 N).take (8-j)=(W9 N).take (7-j)++[UInt8.ofNat (N*8 / 2 ^ (8*j))]
 | 0,_=>by simp[W9]|1,_=>by simp[W9]|2,_=>by simp[W9]|3,_=>by simp[W9]|4,_=>by simp[W9]|5,_=>by simp[W9]|6,_=>by simp[W9]|7,_=>by simp[W9]
 | j+8,h=>by omega
theorem znm (m:Nat):IntKind.u8.wrap (m:Int)=((UInt8.ofNat m).toNat:Int):=by
 simp[IntKind.wrap,IntKind.signed,IntKind.bits]
theorem zei {n:Int} (h0:0≤n) (h1:n<18446744073709551616):IntKind.u64.wrap n=n:=by
 simp[IntKind.wrap,IntKind.signed,IntKind.bits];omega
theorem zpG (n k:Nat) (h:k<64):((n:Int)).fdiv (2 ^ (min k IntKind.u64.bits))=((n / 2 ^ k:Nat):Int):=by
 rw[show min k IntKind.u64.bits=k by simp[IntKind.bits];omega,Int.fdiv_eq_ediv_of_nonneg _ (Int.le_of_lt (Int.pow_pos (by omega)))]
 norm_cast
theorem zdJ:K3 128=.i .u8 128:=rfl
theorem zbY:K3 0=.i .u8 0:=rfl
def QA (t:List UInt8):Nat→List UInt32
 | 0=>h8
 | n+1=>jR (QA t n) ((t.drop (64*n)).take 64)
theorem gT (t:List UInt8):∀n,(QA t n).length=8
 | 0=>rfl
 | n+1=>KJ (gT t n)
def WM (h:List UInt32):List UInt8:=(List.range 32).map fun i=>(h.getD (i/4) 0 >>> UInt32.ofNat (24-8*(i%4))).toUInt8
def sha (l:List UInt8):List UInt8:=WM (QA (K2 l) ((K2 l).length / 64))
theorem zdN (h:List UInt32):(WM h).length=32:=by simp[WM]
theorem zmR (d:List UInt8):KW d=.agg (d.map K3):=rfl
end Go.Proofs.YtcgpcfcbienapaaGreatDoor
end
section
set_option maxRecDepth 100000
namespace Go.Proofs.YtcgpcfcbienapaaGreatDoor
open Go Go.Ab
open Classical
variable [Sel] [SelPow] [SelMax]
structure zCU where
 run:zCT
 outs:List Txt
 may:Txt→Bool
 wrote:List (Txt × Txt)
 reads:List Read
 asks:Txt
 over:Bool
 why:Int
def J9 (k:KnV):Read:=⟨k.path,k.is,if k.is=true then sha k.data else zero32⟩
def QM (e:Int) (b:zCU):zCU:={ b with over:=true,why:=e }
def JA (p d:Txt) (b:zCU):zCU :=
 if p∈b.wrote.map (·.1)∨p∉b.outs then QM 14 b else { b with wrote:=b.wrote++[(p,d)] }
def YU (b:zCU):Bool:=b.outs.any fun p=>decide (p∉b.wrote.map (·.1))
noncomputable def roundB (b:zCU):zCU × Bool :=
 let d:=(w9 b.run).1
 let b':={ b with run:=(w9 b.run).2 }
 if d.kind=1 then(if b.may d.path=true then({ b' with asks:=d.path },true) else(QM 13 b',false))
 else if d.kind=2 then(JA d.path d.data b',false)
 else if d.kind=3 then(if YU b=true then(QM 14 b',false) else({ b' with over:=true },false))
 else(QM d.why b',false)
noncomputable def goN:Nat→zCU→Option zCU
 | 0,_=>none
 | n+1,b=>if b.over=true then some b else if (roundB b).2=true then some (roundB b).1 else goN n (roundB b).1
noncomputable def yQ (b:zCU):zCU:=(goN (ccR b.run+2) b).getD b
noncomputable def kB (k:KnV) (b:zCU):Int × zCU :=
 if b.over=true then(19,b) else if k.path≠b.asks then(1,b) else if k.is=true∧65536<k.data.length then(6,b)
 else(0,yQ { b with reads:=b.reads++[J9 k],run:=(QB k b.run).2 })
noncomputable def ZH (b:zCU):List U1:=(kK (b.wrote.map (·.1))).map fun p=>⟨p,((b.wrote.find? fun x=>decide (x.1=p)).getD ([],[])).2⟩
noncomputable def yD (b:zCU):zcy × Bool :=
 if b.over=false then(⟨0,0,[],[]⟩,false)
 else if b.why=0 then(⟨1,0,ZH b,b.reads⟩,true)
 else(⟨2,b.why,[],b.reads⟩,true)
def pdW (d:DoV):Txt × Txt:=(d.path,d.data)
structure zhg (env:List (Txt × Txt)) (c0:CfV) (kn:List KnV) (outs:List Txt) (may:Txt→Bool) (wr:List DoV) (b:zCU):Prop where
 at_:AtR env c0 kn wr b.run
 no2:b.run.over.kind≠2
 wrote:b.wrote=wr.map pdW
 nod:(wr.map (·.path)).Nodup
 own:∀w∈wr,w.path∈outs
 outs:b.outs=outs
 may:b.may=may
 reads:b.reads=kn.map J9
 over:b.over=false
 why:b.why=0
inductive zf6 (env:List (Txt × Txt)) (c0:CfV) (kn:List KnV) (outs:List Txt) (may:Txt→Bool) (wr:List DoV) (b:zCU):Prop
 | waits (d:DoV):JB env c0 kn wr b.run d→d.kind=1→may d.path=true→b.run.waits=true→b.asks=d.path→b.asks=b.run.asks→b.over=false→b.why=0→zf6 env c0 kn outs may wr b
 | read (d:DoV):JB env c0 kn wr b.run d→d.kind=1→may d.path=false→b.over=true→b.why=13→zf6 env c0 kn outs may wr b
 | ended (d:DoV):JB env c0 kn wr b.run d→d.kind=3→(∀p∈outs,p∈wr.map (·.path))→b.over=true→b.why=0→zf6 env c0 kn outs may wr b
 | short (d:DoV):JB env c0 kn wr b.run d→d.kind=3→¬(∀p∈outs,p∈wr.map (·.path))→b.over=true→b.why=14→zf6 env c0 kn outs may wr b
 | failed (d:DoV):JB env c0 kn wr b.run d→d.kind=4→d.why≠0→b.over=true→b.why=d.why→zf6 env c0 kn outs may wr b
 | wrote (d:DoV):AtR env c0 kn (wr++[d]) b.run→(d.path∈wr.map (·.path)∨d.path∉outs)→b.over=true→b.why=14→zf6 env c0 kn outs may wr b
structure WY (env:List (Txt × Txt)) (c0:CfV) (kn:List KnV) (outs:List Txt) (may:Txt→Bool) (wr:List DoV) (b:zCU):Prop where
 e:zf6 env c0 kn outs may wr b
 wrote:b.wrote=wr.map pdW
 nod:(wr.map (·.path)).Nodup
 own:∀w∈wr,w.path∈outs
 outs:b.outs=outs
 may:b.may=may
 reads:b.reads=kn.map J9
theorem GC {wr:List DoV} {l:List (Txt × Txt)} (h:l=wr.map pdW):l.map (·.1)=wr.map (·.path):=by
 simp_all[pdW]
theorem JB.ov {env:List (Txt × Txt)} {c0:CfV} {kn:List KnV} {wr:List DoV} {r:zCT} {d:DoV} (h:JB env c0 kn wr r d):d.kind=1∧r.waits=true∧d.path=r.asks∨d.kind=3∧d=⟨3,[],[],0⟩∨d.kind=4∧d.why≠0:=by
 by_cases hw:r.waits=true
 ·exact .inl ⟨h.waits.2 hw,hw,by rw[h.asks hw]⟩
 ·have hw':r.waits=false:=by simp_all
  have hd:=h.over hw'
  have hst:=h.stops
  have hk0:r.over.kind≠0:=by
   simp_all[kL]
  rcases h.at_.ov.1 with h1|⟨h1,_⟩|h1|⟨h1,h2⟩
  ·rw[h1]at hk0;exact absurd rfl hk0
  ·exact absurd h1 h.no2
  ·simp_all
  simp_all
theorem zin {env:List (Txt × Txt)} {c0:CfV} {kn:List KnV} {outs:List Txt} {may:Txt→Bool} {wr:List DoV} {b:zCU} (h:zhg env c0 kn outs may wr b) :
  (∃d,zhg env c0 kn outs may (wr++[d]) (roundB b).1∧(roundB b).2=false∧ccR (roundB b).1.run<ccR b.run)∨(WY env c0 kn outs may wr (roundB b).1∧((roundB b).2=true∨(roundB b).1.over=true)):=by
 have hwp:=GC h.wrote
 obtain⟨d,hd⟩:∃d,d=(w9 b.run).1:=⟨_,rfl⟩
 obtain⟨r',hr'⟩:∃r',r'=(w9 b.run).2:=⟨_,rfl⟩
 have hn:=h.at_.next h.no2
 rw[←hd,←hr']at hn
 unfold roundB
 simp only[←hd,←hr']
 rcases hn with⟨h1,h2,h3,h4⟩|hs
 ·rw[if_neg (by omega),if_pos h1]
  unfold JA
  simp only[hwp,h.outs]
  by_cases hb:d.path∈wr.map (·.path)∨d.path∉outs
  ·rw[if_pos hb]
   right
   exact⟨⟨.wrote d h2 hb rfl rfl,h.wrote,h.nod,h.own,rfl,h.may,h.reads⟩,.inr rfl⟩
  ·rw[if_neg hb]
   left
   have hb1:d.path∉wr.map (·.path):=fun e=>hb (.inl e)
   have hb2:d.path∈outs:=Classical.byContradiction fun e=>hb (.inr e)
   refine⟨d,⟨h2,by simp_all,by simp only[h.wrote,List.map_append];rfl,?_,?_,rfl,h.may,h.reads,h.over,h.why⟩,trivial,h3⟩
   ·rw[List.map_append]
    refine List.nodup_append.2 ⟨h.nod,by simp,fun a ha c hc=>?_⟩
    grind
   ·intro w hw
    rcases List.mem_append.1 hw with hw|hw
    ·exact h.own w hw
    simp_all
 ·right
  rcases hs.ov with⟨h1,h2,h3⟩|⟨h1,h2⟩|⟨h1,h2⟩
  ·rw[if_pos h1,h.may]
   by_cases hm:may d.path=true
   ·rw[if_pos hm]
    exact⟨⟨.waits d hs h1 hm h2 rfl h3 h.over h.why,h.wrote,h.nod,h.own,h.outs,rfl,h.reads⟩,.inl rfl⟩
   ·rw[if_neg hm]
    exact⟨⟨.read d hs h1 (by simp_all) rfl rfl,h.wrote,h.nod,h.own,h.outs,rfl,h.reads⟩,.inr rfl⟩
  ·rw[if_neg (by omega),if_neg (by omega),if_pos h1]
   have hl:YU b=true↔¬∀p∈outs,p∈wr.map (·.path):=by
    unfold YU
    rw[hwp,h.outs]
    simp
   by_cases hm:YU b=true
   ·rw[if_pos hm]
    exact⟨⟨.short d hs h1 (hl.1 hm) rfl rfl,h.wrote,h.nod,h.own,h.outs,h.may,h.reads⟩,.inr rfl⟩
   ·rw[if_neg hm]
    exact⟨⟨.ended d hs h1 (Classical.byContradiction fun e=>hm (hl.2 e)) rfl h.why,h.wrote,h.nod,h.own,h.outs,h.may,h.reads⟩,.inr rfl⟩
  ·rw[if_neg (by omega),if_neg (by omega),if_neg (by omega)]
   exact⟨⟨.failed d hs h1 h2 rfl rfl,h.wrote,h.nod,h.own,h.outs,h.may,h.reads⟩,.inr rfl⟩
theorem znb {env:List (Txt × Txt)} {c0:CfV} {kn:List KnV} {outs:List Txt} {may:Txt→Bool}:∀(n:Nat) {wr:List DoV} {b:zCU},zhg env c0 kn outs may wr b→ccR b.run<n→∃b' m,goN (n+1) b=some b'∧WY env c0 kn outs may (wr++m) b'
 | 0,_,_,_,h=>absurd h (Nat.not_lt_zero _)
 | n+1,wr,b,h,hc=>by
  rw[goN,if_neg (by rw[h.over];decide)]
  rcases zin h with⟨d,h1,h2,h3⟩|⟨h1,h2⟩
  ·rw[if_neg (by simp_all)]
   obtain⟨b',m,h4,h5⟩:=znb n h1 (by omega)
   grind
  ·by_cases h3:(roundB b).2=true
   ·rw[if_pos h3];exact⟨_,[],rfl,by simp_all⟩
   ·rw[if_neg h3,goN,if_pos (h2.resolve_left h3)]
    exact⟨_,[],rfl,by simp_all⟩
theorem V7 {env:List (Txt × Txt)} {c0:CfV} {kn:List KnV} {outs:List Txt} {may:Txt→Bool} {wr:List DoV} {b:zCU} (h:zhg env c0 kn outs may wr b):goN (ccR b.run+2) b=some (yQ b)∧∃m,WY env c0 kn outs may (wr++m) (yQ b):=by
 obtain⟨b',m,h1,h2⟩:=znb (ccR b.run+1) h (by omega)
 grind [yQ]
theorem WY.tell {env:List (Txt × Txt)} {c0:CfV} {kn:List KnV} {outs:List Txt} {may:Txt→Bool} {wr:List DoV} {b:zCU} (h:WY env c0 kn outs may wr b) (ho:b.over=false) (k:KnV) (hp:k.path=b.asks) (hd:k.is=true→k.data.length≤65536) :
  zhg env c0 (kn++[k]) outs may wr { b with reads:=b.reads++[J9 k],run:=(QB k b.run).2 }∧(QB k b.run).1=0:=by
 cases h.e with
 | waits d hs h1 hm hw ha ha2 h3 h4 =>
  obtain⟨g1,g2,g3,_⟩:=hs.give k hw (hp.trans ha2) hd
  exact⟨⟨g2,by simp_all,h.wrote,h.nod,h.own,h.outs,h.may,by simp only[h.reads,List.map_append];rfl,h3,h4⟩,g1⟩
 | read d _ _ _ h3 _=>simp_all
 | ended d _ _ _ h3 _=>simp_all
 | short d _ _ _ h3 _=>simp_all
 | failed d _ _ _ h3 _=>simp_all
 | wrote d _ _ h3 _=>simp_all
theorem AtR.s {env:List (Txt × Txt)} {c0:CfV} {kn:List KnV} {wr:List DoV} {r:zCT} (h:AtR env c0 kn wr r):kn.length≤500:=by
 have hk:r.known.length≤500:=by
  rcases h.inv with⟨g,_⟩|⟨_,_,_,_,g,_⟩
  ·exact g.nk
  ·exact g.nk
 rw[h.kno]at hk;exact hk
theorem WY.len {env:List (Txt × Txt)} {c0:CfV} {kn:List KnV} {outs:List Txt} {may:Txt→Bool} {wr:List DoV} {b:zCU} (h:WY env c0 kn outs may wr b):kn.length≤500:=by
 cases h.e with
 | waits d hs=>exact hs.at_.s
 | read d hs=>exact hs.at_.s
 | ended d hs=>exact hs.at_.s
 | short d hs=>exact hs.at_.s
 | failed d hs=>exact hs.at_.s
 | wrote d hs=>exact hs.s
theorem WY.asks {env:List (Txt × Txt)} {c0:CfV} {kn:List KnV} {outs:List Txt} {may:Txt→Bool} {wr:List DoV} {b:zCU} (h:WY env c0 kn outs may wr b) (ho:b.over=false):may b.asks=true∧zQ kn b.asks=none∧b.why=0:=by
 cases h.e with
 | waits d hs h1 hm hw ha ha2 h3 h4 =>
  refine⟨by simp_all,?_,h4⟩
  rcases hs.at_.inv with⟨_,h2⟩|⟨l,k,p,e,g2,g3,g4,_⟩
  ·simp_all
  ·obtain⟨q1,q2,_⟩:=g4 hw
   rw[ha2,q1,←hs.at_.kno];exact q2
 | read d _ _ _ h3 _=>simp_all
 | ended d _ _ _ h3 _=>simp_all
 | short d _ _ _ h3 _=>simp_all
 | failed d _ _ _ h3 _=>simp_all
 | wrote d _ _ h3 _=>simp_all
theorem WY.give {env:List (Txt × Txt)} {c0:CfV} {kn:List KnV} {outs:List Txt} {may:Txt→Bool} {wr:List DoV} {b:zCU} (h:WY env c0 kn outs may wr b) (ho:b.over=false) (k:KnV) (hp:k.path=b.asks) (hd:k.is=true→k.data.length≤65536) :
  (kB k b).1=0∧∃m,WY env c0 (kn++[k]) outs may (wr++m) (kB k b).2:=by
 have h1:=(h.tell ho k hp hd).1
 simp_all[kB,if_neg,V7]
structure zeF (known kn:List KnV) (may:Txt→Bool):Prop where
 each:∀k∈kn,zQ known k.path=some k
 nod:(kn.map (·.path)).Nodup
 may:∀k∈kn,may k.path=true
theorem WY.out {env:List (Txt × Txt)} {c0:CfV} {kn:List KnV} {outs:List Txt} {may:Txt→Bool} {wr:List DoV} {b:zCU} (h:WY env c0 kn outs may wr b) (ho:b.over=true):(b.why=0∧∀p∈outs,p∈wr.map (·.path))∨b.why≠0:=by
 cases h.e with
 | waits d _ _ _ _ _ _ h3 _=>simp_all
 | read d _ _ _ _ h4=>omega
 | ended d _ _ h2 _ h4=>simp_all
 | short d _ _ _ _ h4=>omega
 | failed d _ _ h2 _ h4=>omega
 | wrote d _ _ _ h4=>omega
/-! ### a box ahead of its first step -/
noncomputable def CE (env:List (Txt × Txt)) (outs:List Txt) (may:Txt→Bool) (cs:List CmdV):zCU:=⟨⟨(cs.reverse).map .cmd,env,[],[],[],false,do0,[]⟩,outs,may,[],[],[],false,0⟩
noncomputable def ZR (env:List (Txt × Txt)) (outs:List Txt) (may:Txt→Bool) (cs:List CmdV):zCU:=yQ (CE env outs may cs)
def C9 (cs:List CmdV):CfV:=⟨cs.map .cmd,st0,[]⟩
theorem zak (env:List (Txt × Txt)) (cs:List CmdV) (hl:cs.length≤400):JF ⟨(cs.reverse).map .cmd,env,[],[],[],false,do0,[]⟩:=by
 refine .inl ⟨⟨⟨(cs.reverse).map .cmd,[],by simp,fun t ht=>?_,by simp⟩,?_,?_,by simp,by simp,by simp⟩,rfl⟩
 ·obtain⟨c,_,rfl⟩:=List.mem_map.1 ht
  rfl
 ·have hs:Y6 ([]:List KnV) ((cs.reverse).map .cmd)=0:=u6 _ _ fun t ht=>by
   obtain⟨c,_,rfl⟩:=List.mem_map.1 ht
   rfl
  simp_all[YN]
 grind [List.countP_le_length]
theorem zeZ (env:List (Txt × Txt)) (outs:List Txt) (may:Txt→Bool) (cs:List CmdV) (hl:cs.length≤400):zhg env (C9 cs) [] outs may [] (CE env outs may cs):=by
 refine⟨⟨zak env cs hl,⟨.inl rfl,fun _=>rfl⟩,rfl,rfl,fun kn' _=>?_⟩,by show (0:Int)≠2;decide,rfl,by simp,by simp,rfl,rfl,rfl,rfl,rfl⟩
 have:jV [] (CE env outs may cs).run=C9 cs:=by
  simp[jV,CE,C9,st0,do0]
 rw[this];exact .refl _
theorem zec (env:List (Txt × Txt)) (outs:List Txt) (may:Txt→Bool) (cs:List CmdV) (hl:cs.length≤400):∃m,WY env (C9 cs) [] outs may m (ZR env outs may cs):=by
 obtain⟨m,h⟩:=(V7 (zeZ env outs may cs hl)).2
 grind [ZR]
theorem zeF.nil (known:List KnV) (may:Txt→Bool):zeF known [] may:=⟨by simp,by simp,by simp⟩
end Go.Proofs.YtcgpcfcbienapaaGreatDoor
end
