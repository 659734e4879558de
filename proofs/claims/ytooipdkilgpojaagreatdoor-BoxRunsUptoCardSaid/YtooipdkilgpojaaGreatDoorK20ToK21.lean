/- The document's tool as small steps, and the program's tool beside it: plain. No condition beyond each theorem's own. -/
import Derived.Test.YtooipdkilgpojaaGreatDoorKM
import Derived.Test.YtooipdkilgpojaaGreatDoorQ0ToK5
import Derived.Test.YtooipdkilgpojaaGreatDoorL0
set_option linter.unusedSimpArgs false
set_option linter.unusedVariables false
set_option linter.unusedSectionVars false
section
set_option maxRecDepth 100000
namespace Go.Proofs.YtooipdkilgpojaaGreatDoor
open Go Go.Ab
open Classical
variable [Sel] [SelPow] [SelMax]
structure StV where
 buf:Txt
 asked:List Txt
 wrote:List DoV
 stop:DoV
structure CfV where
 td:List TdV
 st:StV
 done:List Txt
def st0:StV:=⟨[],[],[],do0⟩
def yZ (e:Int) (s:StV):StV:={ s with stop:=⟨4,[],[],e⟩ }
def yP (t:Txt) (s:StV):StV:=if 65536<s.buf.length+t.length then yZ 6 s else { s with buf:=s.buf++t }
def CfV.map (c:CfV) (f:StV→StV):CfV:={ c with st:=f c.st }
def VX (p:Txt) (k:CoV) (c:CfV):CfV :=
 if p∈c.st.asked then { c with td:=.ans k p::c.td }
 else if 500≤c.st.asked.length then c.map (yZ 6)
 else { c with td:=.ans k p::c.td,st:={ c.st with asked:=c.st.asked++[p] } }
def thS:ThV→Txt→CfV→CfV
 | .add,d,c=>c.map (yP d)
 | .scan w,d,c=>{ c with td:=((z7 d).map fun s=>.line s w)++c.td }
def coS:CoV→KnV→CfV→CfV
 | .there t,x,c=>if x.is=true then thS t x.data c else c.map (yZ 10)
 | .tr,x,c=>if x.is=true then c.map (yP x.data) else c
def zb0 (p w:Txt) (c:CfV):CfV:=VX p (.there (.scan w)) { c with done:=c.done++[p] }
def D4 (s w:Txt) (c:CfV):CfV :=
 match zR s with
 | [a,p]=>if a≠w∨yV p=false then c.map (yP (s++[10])) else if p∈c.done then c else zb0 p w c
 | _=>c.map (yP (s++[10]))
noncomputable def cS (name arg buf:Txt):Txt :=
 if name=wP then(kK (z7 buf)).flatMap (·++[10])
 else if name=y4 then(kF (z7 buf)).flatMap (·++[10])
 else if name=kV then buf.map upB
 else if name=kY then Lib.itoa (z7 buf).length++[10]
 else if name=wQ then((z7 buf).filter fun s=>Lib.contains s arg).flatMap (·++[10])
 else buf
noncomputable def V6 (env:List (Txt × Txt)) (c:CmdV) (f:CfV):CfV :=
 let w:=c.words.getD 0 []
 let arg:=c.words.getD 1 []
 if w=zZ then VX arg (.there .add) f
 else if w=w8 then VX arg .tr f
 else if w=jT then zb0 arg (c.words.getD 2 []) { f with done:=[] }
 else if w=tText then f.map (yP (c.rest++[10]))
 else if w=yO then(match env.find? fun x=>decide (x.1=arg)with
  | some x=>f.map (yP x.2)
  | none=>f.map (yZ 10))
 else if w=j8 then f.map fun s=>{ s with wrote:=s.wrote++[⟨2,arg,s.buf,0⟩],buf:=[] }
 else if w=kG then(if (z7 f.st.buf).any (fun s=>Lib.contains s arg)=true then f else f.map (yZ 15))
 else if w=yR then f.map (yZ 15)
 else f.map fun s=>yP (cS w arg s.buf) { s with buf:=[] }
noncomputable def J6 (env:List (Txt × Txt)) (kn:List KnV) (c:CfV):CfV:=match c.td with
 | []=>c.map fun s=>{ s with stop:=⟨3,[],[],0⟩ }
 | .cmd x::l=>V6 env x { c with td:=l }
 | .line s w::l=>D4 s w { c with td:=l }
 | .ans k p::l=>(match zQ kn p with
  | some x=>coS k x { c with td:=l }
  | none=>CfV.map { c with td:=l } fun s=>{ s with stop:=⟨1,p,[],0⟩ })
inductive Q7 (env:List (Txt × Txt)) (kn:List KnV):CfV→CfV→Prop
 | refl (c):Q7 env kn c c
 | step {c c'}:c.st.stop.kind=0→Q7 env kn (J6 env kn c) c'→Q7 env kn c c'
theorem Q7.trans {env:List (Txt × Txt)} {kn:List KnV} {a b c:CfV} (h:Q7 env kn a b) (g:Q7 env kn b c):Q7 env kn a c:=by
 induction h with
 | refl=>exact g
 | step h _ ih=>exact .step h (ih g)
theorem Q7.one {env:List (Txt × Txt)} {kn:List KnV} {a:CfV} (h:a.st.stop.kind=0):Q7 env kn a (J6 env kn a):=.step h (.refl _)
theorem Q7.det {env:List (Txt × Txt)} {kn:List KnV} {a b c:CfV} (h:Q7 env kn a b) (g:Q7 env kn a c) (hb:b.st.stop.kind≠0) (hc:c.st.stop.kind≠0):b=c:=by
 induction h with
 | refl =>
  cases g with
  | refl=>rfl
  | step h1 _=>omega
 | step h1 _ ih =>
  cases g with
  | refl=>omega
  | step _ g1=>simp_all
/-! ### the program's tool, seen so -/
noncomputable def jV (wr:List DoV) (r:y3):CfV :=
 ⟨r.todo.reverse,⟨r.buf,r.known.map (·.path)++(if r.waits=true then [r.asks] else []),if r.over.kind=2 then wr++[r.over] else wr,if r.over.kind=2 then do0 else r.over⟩,r.seen⟩
theorem PP (wr:List DoV) {r:y3} (hw:r.waits=false) (ho:r.over=do0):jV wr r=⟨r.todo.reverse,⟨r.buf,r.known.map (·.path),wr,do0⟩,r.seen⟩:=by
 simp_all[jV,do0]
theorem zaC {kn kn':List KnV} {p:Txt} {x:KnV} (h:kn <+: kn') (hf:zQ kn p=some x):zQ kn' p=some x:=by
 obtain⟨m,rfl⟩:=h
 simp_all[zQ]
theorem ze4 {kn:List KnV} {p:Txt} {x:KnV} (hf:zQ kn p=some x):p∈kn.map (·.path):=by
 obtain⟨h1,h2⟩:=KP hf
 grind
theorem uZ {kn:List KnV} {p:Txt} (hf:zQ kn p=none):p∉kn.map (·.path):=by
 intro h
 obtain⟨x,h1,h2⟩:=List.mem_map.1 h
 have:=List.find?_eq_none.1 hf x h1
 simp_all
structure zsH (wr:List DoV) (r r':y3) (c:CfV):Prop where
 eq:jV wr r'=c
theorem KS (wr:List DoV) (e:Int) {r:y3} (hw:r.waits=false) (ho:r.over=do0):jV wr (wC e r)=(jV wr r).map (yZ e):=by
 simp_all[jV,wC,CfV.map,yZ,do0]
theorem ZW (wr:List DoV) (t:Txt) {r:y3} (hw:r.waits=false) (ho:r.over=do0):jV wr (wW t r)=(jV wr r).map (yP t):=by
 grind [wW,KS,jV,CfV.map,yP]
theorem zg7 (wr:List DoV) (k:CoV) (x:KnV) {r:y3} (hw:r.waits=false) (ho:r.over=do0):jV wr (coR k x r)=coS k x (jV wr r):=by
 cases hx:x.is with
 | false =>
  cases k with
  | tr=>simp[coR,coS,hx]
  | there t=>simp_all[coR,coS,KS]
 | true =>
  cases k with
  | tr=>simp_all[coR,coS,ZW]
  | there t=>cases t with
   | add=>simp_all[coR,coS,thR,thS,ZW]
   | scan w=>simp_all[coR,coS,thR,thS,jV]
theorem P9 (env:List (Txt × Txt)) {kn:List KnV} (wr:List DoV) (p:Txt) (k:CoV) {r:y3} (hk:r.known <+: kn) (hw:r.waits=false) (ho:r.over=do0):Q7 env kn (VX p k (jV wr r)) (jV wr (Q6 p k r)):=by
 have e:=PP wr hw ho
 unfold Q6
 cases hf:zQ r.known p with
 | some x =>
  have h1:=ze4 hf
  have h2:=zaC hk hf
  have ha:p∈(jV wr r).st.asked:=by simp_all
  simp only[VX,ha,if_true]
  refine .step (by rw[e];rfl) ?_
  simp only[J6,h2]
  rw[zg7 wr k x hw ho]
  exact .refl _
 | none =>
  have h1:=uZ hf
  have ha:¬p∈(jV wr r).st.asked:=by simp_all
  have hl:(jV wr r).st.asked.length=r.known.length:=by rw[e];simp
  simp only[VX,ha,if_false,hl]
  by_cases h5:500≤r.known.length
  ·simp only[h5,if_true]
   rw[KS wr 6 hw ho]
   exact .refl _
  ·simp only[h5,if_false]
   have:jV wr { r with asks:=p,waits:=true,todo:=r.todo++[.ans k p] }={ jV wr r with td:=.ans k p::(jV wr r).td,st:={ (jV wr r).st with asked:=(jV wr r).st.asked++[p] } }:=by
    simp_all[jV]
   rw[this]
   exact .refl _
theorem zbb (env:List (Txt × Txt)) {kn:List KnV} (wr:List DoV) (p w:Txt) {r:y3} (hk:r.known <+: kn) (hw:r.waits=false) (ho:r.over=do0):Q7 env kn (zb0 p w (jV wr r)) (jV wr (ZL p w r)):=by
 have:=P9 env wr p (.there (.scan w)) (r:={ r with seen:=r.seen++[p] }) hk hw ho
 exact this
theorem zgT (env:List (Txt × Txt)) {kn:List KnV} (wr:List DoV) (s w:Txt) {r:y3} (hk:r.known <+: kn) (hw:r.waits=false) (ho:r.over=do0):Q7 env kn (D4 s w (jV wr r)) (jV wr (Z1 s w r)):=by
 unfold D4 Z1
 generalize zR s=ws
 rcases ws with _|⟨a,_|⟨p,_|⟨q,l⟩⟩⟩
 ·simp only;rw[ZW wr _ hw ho];exact .refl _
 ·simp only;rw[ZW wr _ hw ho];exact .refl _
 ·simp only
  by_cases h1:a≠w∨yV p=false
  ·rw[if_pos h1,if_pos h1,ZW wr _ hw ho];exact .refl _
  ·rw[if_neg h1,if_neg h1]
   have:(jV wr r).done=r.seen:=rfl
   rw[this]
   by_cases h2:p∈r.seen
   ·rw[if_pos h2,if_pos h2];exact .refl _
   simp_all[zbb]
 ·simp only;rw[ZW wr _ hw ho];exact .refl _
theorem d9 (wr:List DoV) (b:Txt) {r:y3} (hw:r.waits=false) (ho:r.over=do0):jV wr { r with buf:=b }=(jV wr r).map fun s=>{ s with buf:=b }:=by
 rfl
theorem dK (t:Txt) (s:StV) (h:t.length≤65536):yP t { s with buf:=[] }={ s with buf:=t }:=by
 grind [yP]
theorem UK (wr:List DoV) (l:List Txt) {r:y3} (hw:r.waits=false) (ho:r.over=do0):jV wr (kS l r)=(jV wr r).map fun s=>yP (l.flatMap (·++[10])) { s with buf:=[] }:=by
 unfold kS
 rw[ZW wr _ (r:={ r with buf:=[] }) hw ho,d9 wr [] hw ho]
 rfl
theorem zgL (wr:List DoV) (n a:Txt) {r:y3} (hw:r.waits=false) (ho:r.over=do0) (hb:r.buf.length≤65536):jV wr (wK n a r)=(jV wr r).map fun s=>yP (cS n a s.buf) { s with buf:=[] }:=by
 have eb:(jV wr r).st.buf=r.buf:=rfl
 unfold wK cS
 simp only[CfV.map,eb]
 split
 ·rw[UK wr _ hw ho];rfl
 split
 ·rw[UK wr _ hw ho];rfl
 split
 ·rw[dK _ _ (by simp_all)]
  rfl
 split
 ·have h1:=ZE r.buf
  have h2:(Lib.itoa ((z7 r.buf).length:Int)).length≤21:=Lib.itoa_length_le _ (by omega) (by omega)
  rw[dK _ _ (by grind)]
  rfl
 split
 ·rw[UK wr _ hw ho];rfl
 grind [dK,jV]
theorem zj6 (env:List (Txt × Txt)) {kn:List KnV} (wr:List DoV) (c:CmdV) {r:y3} (he:r.env=env) (hk:r.known <+: kn) (hw:r.waits=false) (ho:r.over=do0) (hb:r.buf.length≤65536):Q7 env kn (V6 env c (jV wr r)) (jV wr (doR c r)):=by
 have e:=PP wr hw ho
 have eb:(jV wr r).st.buf=r.buf:=rfl
 subst he
 unfold V6 doR
 simp only
 split
 ·grind [P9]
 split
 ·grind [P9]
 split
 ·exact zbb _ wr _ _ (r:={ r with seen:=[] }) hk hw ho
 split
 ·rw[ZW wr _ hw ho];exact .refl _
 split
 ·cases hf:(r.env.find? fun x=>decide (x.1=c.words.getD 1 []))with
  | some x=>simp only;rw[ZW wr _ hw ho];exact .refl _
  | none=>simp only;rw[KS wr _ hw ho];exact .refl _
 split
 ·have:jV wr { r with over:=⟨2,c.words.getD 1 [],r.buf,0⟩,buf:=[] }=(jV wr r).map fun s=>{ s with wrote:=s.wrote++[⟨2,c.words.getD 1 [],s.buf,0⟩],buf:=[] }:=by
   simp_all[jV,CfV.map]
  rw[this];exact .refl _
 split
 ·rw[eb]
  split
  ·exact .refl _
  ·rw[KS wr _ hw ho];exact .refl _
 split
 ·rw[KS wr _ hw ho];exact .refl _
 ·rw[zgL wr _ _ hw ho hb];exact .refl _
theorem zgD (env:List (Txt × Txt)) {kn:List KnV} (wr:List DoV) {r:y3} (hi:JF r) (he:r.env=env) (hk:r.known <+: kn) (hw:r.waits=false) (ho:r.over=do0):Q7 env kn (jV wr r) (jV wr (QL r)):=by
 have e:=PP wr hw ho
 refine .step (by rw[e];rfl) ?_
 rcases List.eq_nil_or_concat r.todo with ht|⟨l,t,ht⟩
 ·rw[KT ht]
  have:J6 env kn (jV wr r)=jV wr { r with over:=⟨3,[],[],0⟩ }:=by
   simp_all[J6,CfV.map,jV]
  rw[this];exact .refl _
 ·rw[List.concat_eq_append]at ht
  rw[KV ht]
  have htd:(jV wr r).td=t::l.reverse:=by simp_all
  have hr:({ jV wr r with td:=l.reverse }:CfV)=jV wr { r with todo:=l }:=rfl
  have hbuf:r.buf.length≤65536:=by
   rcases hi with⟨h,_⟩|⟨_,_,_,_,h,_⟩
   ·exact h.buf
   ·exact h.buf
  cases t with
  | cmd c =>
   simp_all[J6,tdR,zj6]
  | line s w =>
   simp_all[J6,tdR,zgT]
  | ans k p =>
   simp only[J6,htd,hr,tdR]
   have hf:∃x,zQ r.known p=some x:=by
    rcases hi with⟨h,_⟩|⟨l',k',p',h1,h2,h3,h4,h5⟩
    ·obtain⟨a,b,h1,h2,h3⟩:=h.ord
     have hm:TdV.ans k p∈a++b:=by simp_all
     grind [isC,isL]
    simp_all
   obtain⟨x,hf⟩:=hf
   have h2:=zaC hk hf
   have h3:(zQ { r with todo:=l }.known p).getD kn0=x:=by simp[hf]
   rw[h3]
   simp only[h2]
   rw[zg7 wr k x (r:={ r with todo:=l }) hw ho]
   exact .refl _
def xP:Txt→Txt
 | []=>[]
 | c::r=>if vV c=true then xP r else c::r
def Q2:Txt→Txt
 | []=>[]
 | c::r=>if vV c=true then c::r else Q2 r
def V9 (l:Txt):Txt:=(Q2 (xP l)).drop 1
theorem p7:∀l:Txt,kA [] l=kA [] (xP l)
 | []=>rfl
 | c::r=>by
  unfold xP
  split
  ·rename_i h
   rw[kA,if_pos h,if_pos rfl]
   exact p7 r
  ·rfl
theorem PO:∀(l cur:Txt),cur≠[]→kA cur l=(cur++l.take (l.length-(Q2 l).length))::kA [] (Q2 l)
 | [],cur,h=>by simp[kA,Q2,h]
 | c::r,cur,h=>by
  unfold Q2
  split
  ·rename_i hc
   rw[kA,if_pos hc,if_neg h]
   rw[kA,if_pos hc,if_pos rfl]
   simp
  ·rename_i hc
   rw[kA,if_neg hc,PO r (cur++[c]) (by simp)]
   have:(Q2 r).length≤r.length:=by
    have:∀q:Txt,(Q2 q).length≤q.length:=by
     intro q
     induction q with
     | nil=>simp[Q2]
     | cons x q ih=>unfold Q2;split<;>simp;omega
    exact this r
   rw[show (c::r).length-(Q2 r).length=r.length-(Q2 r).length+1 by simp;omega]
   simp
theorem zaI:∀q:Txt,(Q2 q).length≤q.length
 | []=>by simp[Q2]
 | x::q=>by
  have:=zaI q
  unfold Q2;split<;>simp;omega
theorem GH:∀q:Txt,q=q.take (q.length-(Q2 q).length)++Q2 q
 | []=>rfl
 | c::r=>by
  have hl:=zaI r
  have ih:=GH r
  unfold Q2
  split
  ·simp
  ·rw[show (c::r).length-(Q2 r).length=r.length-(Q2 r).length+1 by simp;omega,List.take_succ_cons,List.cons_append,←ih]
theorem GT:∀l:Txt,∃b,l=b++xP l∧∀c∈b,vV c=true
 | []=>⟨[],rfl,by simp⟩
 | c::r=>by
  unfold xP
  split
  ·rename_i h
   obtain⟨b,h1,h2⟩:=GT r
   exact⟨c::b,by rw[List.cons_append,←h1],fun x hx=>by
    rcases List.mem_cons.1 hx with rfl|hx
    ·exact h
    ·exact h2 x hx⟩
  ·exact⟨[],rfl,by simp⟩
theorem zfx {l w:Txt} {ws:List Txt} (h:zR l=w::ws):xP l=w++Q2 (xP l):=by
 rw[zR,p7]at h
 cases hd:xP l with
 | nil=>rw[hd]at h;simp[kA]at h
 | cons c r =>
  have hc:vV c=false:=by
   have:∀q:Txt,∀ {c r},xP q=c::r→vV c=false:=by
    intro q
    induction q with
    | nil=>intro c r e;cases e
    | cons x q ih =>
     intro c r e
     unfold xP at e
     split at e
     ·exact ih e
     ·rename_i hx
      cases e;simpa using hx
   exact this l hd
  rw[hd,kA,if_neg (by simp[hc]),List.nil_append,PO r [c] (by simp)]at h
  obtain⟨h1,_⟩:=List.cons.inj h
  have hs:=GH r
  have hw:Q2 (c::r)=Q2 r:=by rw[Q2,if_neg (by simp[hc])]
  rw[hw,←h1,List.singleton_append,List.cons_append,←hs]
theorem zcE {l:Txt} {ws:List Txt} (h:zR l=tText::ws):(l.drop ((Lib.index l tText).toNat+4)).drop 1=V9 l:=by
 obtain⟨b,h1,h2⟩:=GT l
 have h3:=zfx h
 have hl:l=b++(tText++Q2 (xP l)):=by rw[←h3];exact h1
 have hocc:Lib.occAt l tText b.length=true:=by
  unfold Lib.occAt
  rw[hl]
  simp[List.isPrefixOf_iff_prefix]
 have hno:∀j,j<b.length→Lib.occAt l tText j=false:=by
  intro j hj
  unfold Lib.occAt
  have hd:l.drop j=b[j]::l.drop (j+1):=by
   have hjl:j<l.length:=by rw[hl];simp;omega
   rw[List.drop_eq_getElem_cons hjl]
   congr 1
   rw[List.getElem_of_eq hl,List.getElem_append_left hj]
  rw[hd]
  have hs:=h2 b[j] (List.getElem_mem hj)
  have hne:¬b[j]=116:=by
   intro e
   rw[e]at hs
   revert hs
   decide
  have hne':¬(116:UInt8)=b[j]:=fun e=>hne e.symm
  simp[tText,List.isPrefixOf,hne']
 have hi:=Lib.index_first (by rw[hl];simp) hocc hno
 rw[hi]
 unfold V9
 congr 1
 simp only[Int.toNat_natCast]
 conv=>lhs;rw[hl]
 rw[List.drop_append,List.drop_of_length_le (by omega),List.nil_append,show b.length+4-b.length=tText.length by simp[tText],List.drop_left]
end Go.Proofs.YtooipdkilgpojaaGreatDoor
end
section
set_option maxRecDepth 100000
namespace Go.Proofs.YtooipdkilgpojaaGreatDoor
open Go Go.Ab
open Classical
variable [Sel]
theorem KB {α β:Type} (f:α→β) (l:List α) (k:Nat) (h:k<l.length):(l.map f)[k]?=some (f l[k]):=by rw[List.getElem?_map,List.getElem?_eq_getElem h];rfl
theorem C0 {α:Type} {a b:List α} (hl:a.length=b.length) (h:∀i (h1:i<a.length) (h2:i<b.length),a[i]=b[i]):a=b:=List.ext_getElem hl fun i h1 h2=>h i h1 h2
end Go.Proofs.YtooipdkilgpojaaGreatDoor
end
section
set_option maxRecDepth 100000
namespace Go.Proofs.YtooipdkilgpojaaGreatDoor
open Go Go.Ab
open Classical
variable [Sel] [SelPow] [SelMax]
def C5 (inw:Bool) (ps:List Txt) (l:Txt):List Txt:=match inw with
 | true=>ps.dropLast++kA (ps.getLastD []) l
 | false=>ps++kA [] l
theorem zxN {ps:List Txt} (h:ps≠[]):ps=ps.dropLast++[ps.getLastD []]:=by
 rcases List.eq_nil_or_concat ps with rfl|⟨q,x,rfl⟩
 ·simp_all
 ·simp
theorem zxZ {ps:List Txt} {c:UInt8} {r:Txt} (hps:ps≠[]) (hl:ps.getLastD []≠[]) (hc:vV c=true):C5 true ps (c::r)=C5 false ps r:=by
 unfold C5
 simp only
 rw[kA,if_pos hc,if_neg hl]
 grind [zxN]
theorem zxV {ps:List Txt} {c:UInt8} {r:Txt} (hc:vV c=true):C5 false ps (c::r)=C5 false ps r:=by
 simp_all[C5,kA]
theorem zye {ps:List Txt} {c:UInt8} {r:Txt} (hps:ps≠[]) (hc:vV c=false):C5 true ps (c::r)=C5 true (ps.set (ps.length-1) (ps.getLastD []++[c])) r:=by
 unfold C5
 simp only
 rw[kA,if_neg (by simp[hc])]
 obtain⟨q,x,rfl⟩:∃q x,ps=q++[x]:=⟨_,_,zxN hps⟩
 simp
theorem zyb {ps:List Txt} {c:UInt8} {r:Txt} (hc:vV c=false):C5 false ps (c::r)=C5 true (ps++[[c]]) r:=by
 simp_all[C5,kA]
theorem zy9 (inw:Bool) (ps:List Txt) (h:inw=true→ps≠[]∧ps.getLastD []≠[]):C5 inw ps []=ps:=by
 cases inw with
 | false=>simp[C5,kA]
 | true =>
  obtain⟨h1,h2⟩:=h rfl
  unfold C5
  simp only[kA,if_neg h2]
  grind [zxN]
def zoT (w:Txt) (ws:List Txt):Bool :=
 if w=tText then true
 else if w=zZ∨w=w8∨w=j8 then decide (ws.length=1)&&yV (ws.getD 0 [])
 else if w=jT then decide (ws.length=2)&&yV (ws.getD 0 [])
 else if w=yO∨w=wQ∨w=kG then decide (ws.length=1)
 else if w=wP∨w=y4∨w=kV∨w=kY∨w=yR then decide (ws.length=0)
 else false
def U4:List Txt→Bool
 | []=>true
 | w::_=>decide (w.head?=some 35)
def vH (l:List Txt):Bool:=U4 l||(match l with|[]=>true|w::ws=>zoT w ws)
theorem vB (s:Txt):(Z0 s=none)↔vH (zR s)=false:=by
 unfold Z0 vH U4
 cases hw:zR s with
 | nil=>simp
 | cons w ws =>
  simp only
  by_cases h1:w.head?=some 35
  ·simp[h1]
  ·rw[if_neg h1]
   simp only[h1,decide_false,Bool.false_or]
   unfold zoT jU
   grind
def zbZ:List Txt→Option Nat
 | []=>none
 | s::r=>if vH (zR s)=true then(zbZ r).map (·+1) else some 1
theorem zb7:∀(l:List Txt) (i:Nat),(∀n,zbZ l=some n→yC i l=.error (i+n))∧(zbZ l=none→∃cs,yC i l=.ok cs)
 | [],i=>⟨fun n h=>(by cases h),fun _=>⟨[],rfl⟩⟩
 | s::r,i=>by
  obtain⟨ih1,ih2⟩:=zb7 r (i+1)
  unfold zbZ
  cases hg:vH (zR s)with
  | false =>
   have hn:=(vB s).2 hg
   simp_all[yC]
  | true =>
   have hn:Z0 s≠none:=fun e=>by simp_all[vB]
   simp only[if_true]
   obtain⟨x,hx⟩:=Option.ne_none_iff_exists'.1 hn
   refine⟨fun n h=>?_,fun h=>?_⟩
   ·obtain⟨m,hm,rfl⟩:=Option.map_eq_some_iff.1 h
    grind [yC]
   ·have h':zbZ r=none:=by
     simp_all
    obtain⟨cs,hcs⟩:=ih2 h'
    rw[yC,hx]
    grind
def DV (t:Txt):Int × Int:=if 65536<t.length∨400<(z7 t).length then(6,0) else match zbZ (z7 t)with
 | some n=>(3,n)
 | none=>(0,0)
theorem ze5 (t:Txt):(∃cs,j7 t=.ok cs∧DV t=(0,0))∨∃e n,j7 t=.error (e,n)∧DV t=(e,(n:Int))∧e≠0:=by
 unfold j7 DV
 by_cases h:65536<t.length∨400<(z7 t).length
 ·rw[if_pos h,if_pos h];grind
 rw[if_neg h,if_neg h]
 obtain⟨h1,h2⟩:=zb7 (z7 t) 0
 cases hb:zbZ (z7 t)with
 | none =>
  obtain⟨cs,hcs⟩:=h2 hb
  simp_all
 | some n =>
  grind
def y7 (kn:List KnV) (p:Txt) (s:StV):StV × KnV :=
 if p∉s.asked∧s.asked.length=500 then(yZ 6 s,kn0)
 else
  let s1:StV:=if p∈s.asked then s else { s with asked:=s.asked++[p] }
  match zQ kn p with
  | some k=>(s1,k)
  | none=>({ s1 with stop:=⟨1,p,[],0⟩ },kn0)
def ZS (rec:Txt→StV→List Txt→StV × List Txt) (w:Txt):List Txt→StV→List Txt→StV × List Txt
 | [],s,d=>(s,d)
 | x::r,s,d=>if s.stop.kind≠0 then(s,d) else match zR x with
  | [a,q]=>if a≠w∨yV q=false then ZS rec w r (yP (x++[10]) s) d
   else if q∈d then ZS rec w r s d
   else ZS rec w r (rec q s d).1 (rec q s d).2
  | _=>ZS rec w r (yP (x++[10]) s) d
def zdm (kn:List KnV) (w:Txt):Nat→Txt→StV→List Txt→StV × List Txt
 | 0,_,s,d=>(s,d)
 | n+1,p,s,d =>
  let s1:=(y7 kn p s).1
  let k:=(y7 kn p s).2
  if s1.stop.kind≠0 then(s1,d++[p])
  else if k.is=false then(yZ 10 s1,d++[p])
  else ZS (zdm kn w n) w (z7 k.data) s1 (d++[p])
structure CG (s:StV) (d:List Txt):Prop where
 stop:s.stop=do0
 nod:d.Nodup
 sub:∀p∈d,p∈s.asked
 len:s.asked.length≤500
theorem CG.dlen {s:StV} {d:List Txt} (h:CG s d):d.length≤500 :=
 Nat.le_trans (List.Nodup.length_le_of_subset h.nod h.sub) h.len
theorem zjM (env:List (Txt × Txt)) (kn:List KnV) (p:Txt) (co:CoV) (c:CfV) (h0:c.st.stop.kind=0) (hl:c.st.asked.length≤500) :
  (∃k,y7 kn p c.st=(if p∈c.st.asked then c.st else { c.st with asked:=c.st.asked++[p] },k)∧zQ kn p=some k∧(y7 kn p c.st).1.stop=c.st.stop∧p∈(y7 kn p c.st).1.asked∧(∀q∈c.st.asked,q∈(y7 kn p c.st).1.asked)∧(y7 kn p c.st).1.asked.length≤500∧
   Q7 env kn (VX p co c) (coS co k { c with st:=(y7 kn p c.st).1 }))∨
  ((y7 kn p c.st).1.stop.kind≠0∧∃td',Q7 env kn (VX p co c) ⟨td',(y7 kn p c.st).1,c.done⟩):=by
 unfold y7 VX
 by_cases hin:p∈c.st.asked
 ·simp only[hin,if_true,not_true,false_and,if_false]
  cases hf:zQ kn p with
  | some k =>
   left
   refine⟨k,rfl,rfl,rfl,hin,fun q h=>h,hl,?_⟩
   refine .step h0 ?_
   simp only[J6,hf]
   exact .refl _
  | none =>
   right
   refine⟨by simp,c.td,?_⟩
   refine .step h0 ?_
   simp only[J6,hf]
   exact .refl _
 ·simp only[hin,if_false,not_false_iff,true_and]
  by_cases h5:c.st.asked.length=500
  ·simp only[h5,if_true,Nat.le_refl]
   exact .inr ⟨by simp[yZ],c.td,.refl _⟩
  ·have h5':¬500≤c.st.asked.length:=by omega
   simp only[h5,h5',if_false]
   cases hf:zQ kn p with
   | some k =>
    left
    refine⟨k,rfl,rfl,rfl,by simp,fun q h=>by simp[h],by simp;omega,?_⟩
    refine .step h0 ?_
    simp only[J6,hf]
    exact .refl _
   | none =>
    right
    refine⟨by simp,c.td,?_⟩
    refine .step h0 ?_
    simp only[J6,hf]
    exact .refl _
theorem zk6 {t:Txt} {s:StV} {d:List Txt} (h:CG s d):(yP t s).asked=s.asked∧((yP t s).stop.kind=0→CG (yP t s) d):=by
 unfold yP
 split
 ·simp[yZ]
 ·exact⟨rfl,fun _=>⟨h.stop,h.nod,h.sub,h.len⟩⟩
structure zmT (env:List (Txt × Txt)) (kn:List KnV) (c:CfV) (td:List TdV) (d:List Txt) (r:StV × List Txt):Prop where
 pre:d <+: r.2
 go:r.1.stop.kind=0→CG r.1 r.2∧Q7 env kn c ⟨td,r.1,r.2⟩
 stop:r.1.stop.kind≠0→∃td' d',Q7 env kn c ⟨td',r.1,d'⟩
theorem uN {env:List (Txt × Txt)} {kn:List KnV} {w:Txt} {n:Nat} (rec:Txt→StV→List Txt→StV × List Txt)
  (hrec:∀(p:Txt) (s:StV) (d:List Txt) (td:List TdV),CG s d→p∉d→501-d.length≤n→zmT env kn (zb0 p w ⟨td,s,d⟩) td (d++[p]) (rec p s d)) :
  ∀(l:List Txt) (s:StV) (d:List Txt) (td:List TdV),CG s d→501-d.length≤n→zmT env kn ⟨(l.map fun x=>.line x w)++td,s,d⟩ td d (ZS rec w l s d)
 | [],s,d,td,hi,hn=>⟨List.prefix_refl _,fun _=>⟨hi,by simpa[ZS]using .refl _⟩,fun h=>by simp[ZS,hi.stop,do0]at h⟩
 | x::r,s,d,td,hi,hn=>by
  have hk0:s.stop.kind=0:=by rw[hi.stop];rfl
  have h0:¬s.stop.kind≠0:=by simp[hk0]
  have hstep:∀c',D4 x w ⟨(r.map fun x=>.line x w)++td,s,d⟩=c'→Q7 env kn ⟨((x::r).map fun x=>.line x w)++td,s,d⟩ c':=fun c' e=>by
   subst e
   exact .step hk0 (.refl _)
    -- a line is added
  have hadd:D4 x w ⟨(r.map fun x=>.line x w)++td,s,d⟩=⟨(r.map fun x=>.line x w)++td,yP (x++[10]) s,d⟩→zmT env kn ⟨((x::r).map fun x=>.line x w)++td,s,d⟩ td d (ZS rec w r (yP (x++[10]) s) d):=by
   intro e
   have hr:=hstep _ e
   by_cases hk:(yP (x++[10]) s).stop.kind=0
   ·have ih:=uN rec hrec r _ d td ((zk6 hi).2 hk) hn
    exact⟨ih.pre,fun h=>⟨(ih.go h).1,hr.trans (ih.go h).2⟩,fun h=>by obtain⟨td',d',h1⟩:=ih.stop h;exact⟨td',d',hr.trans h1⟩⟩
   ·have hv:ZS rec w r (yP (x++[10]) s) d=(yP (x++[10]) s,d):=by
     cases r with
     | nil=>rfl
     | cons y r=>rw[ZS,if_pos hk]
    rw[hv]
    exact⟨List.prefix_refl _,fun h=>absurd h hk,fun _=>⟨_,_,hr⟩⟩
  rw[ZS,if_neg h0]
  unfold D4 at hadd hstep
  generalize zR x=ws at hadd hstep ⊢
  rcases ws with _|⟨a,_|⟨q,_|⟨z,l⟩⟩⟩
  ·exact hadd rfl
  ·exact hadd rfl
  ·simp only at hadd hstep ⊢
   by_cases h1:a≠w∨yV q=false
   ·rw[if_pos h1];exact hadd (if_pos h1)
   rw[if_neg h1]at hstep ⊢
   by_cases h2:q∈d
   ·rw[if_pos h2]at hstep ⊢
    have hr:=hstep _ rfl
    have ih:=uN rec hrec r s d td hi hn
    exact⟨ih.pre,fun h=>⟨(ih.go h).1,hr.trans (ih.go h).2⟩,fun h=>by obtain⟨td',d',h1⟩:=ih.stop h;exact⟨td',d',hr.trans h1⟩⟩
   ·rw[if_neg h2]at hstep ⊢
    have hr:=hstep _ rfl
    have hs:=hrec q s d ((r.map fun x=>.line x w)++td) hi h2 hn
    have hpl:=hs.pre.length_le
    simp only[List.length_append,List.length_cons,List.length_nil]at hpl
    have hpd:d <+: (rec q s d).2:=(List.prefix_append d [q]).trans hs.pre
    by_cases hk:(rec q s d).1.stop.kind=0
    ·obtain⟨g1,g2⟩:=hs.go hk
     have ih:=uN rec hrec r (rec q s d).1 (rec q s d).2 td g1 (by omega)
     exact⟨hpd.trans ih.pre,fun h=>⟨(ih.go h).1,hr.trans (g2.trans (ih.go h).2)⟩,fun h=>by obtain⟨td',d',h1⟩:=ih.stop h;exact⟨td',d',hr.trans (g2.trans h1)⟩⟩
    ·obtain⟨td',d',g1⟩:=hs.stop hk
     have hv:ZS rec w r (rec q s d).1 (rec q s d).2=((rec q s d).1,(rec q s d).2):=by
      cases r with
      | nil=>rfl
      | cons y r=>rw[ZS,if_pos hk]
     rw[hv]
     exact⟨hpd,fun h=>absurd h hk,fun _=>⟨td',d',hr.trans g1⟩⟩
  ·exact hadd rfl
theorem zco {env:List (Txt × Txt)} {kn:List KnV} {w:Txt}:∀(n:Nat) (p:Txt) (s:StV) (d:List Txt) (td:List TdV),CG s d→p∉d→501-d.length≤n→zmT env kn (zb0 p w ⟨td,s,d⟩) td (d++[p]) (zdm kn w n p s d)
 | 0,p,s,d,td,hi,hp,hn=>by have:=hi.dlen;omega
 | n+1,p,s,d,td,hi,hp,hn=>by
  have hk0:s.stop.kind=0:=by rw[hi.stop];rfl
  have ha:=zjM env kn p (.there (.scan w)) ⟨td,s,d++[p]⟩ hk0 hi.len
  have hsc:zb0 p w ⟨td,s,d⟩=VX p (.there (.scan w)) ⟨td,s,d++[p]⟩:=rfl
  rw[hsc]
  rw[zdm]
  rcases ha with⟨k,h1,h2,h3,h4,h5,h6,h7⟩|⟨h1,td',h2⟩
  ·simp only at h1 h3 h4 h5 h6 h7
   have hk:(y7 kn p s).2=k:=by rw[h1]
   have hst:¬(y7 kn p s).1.stop.kind≠0:=by simp_all
   rw[if_neg hst,hk]
   have hi2:CG (y7 kn p s).1 (d++[p]):=by
    refine⟨h3.trans hi.stop,?_,?_,h6⟩
    ·refine List.nodup_append.2 ⟨hi.nod,by simp,fun a ha c hc=>?_⟩
     grind
    ·intro q hq
     rcases List.mem_append.1 hq with hq|hq
     ·exact h5 q (hi.sub q hq)
     simp_all
   cases his:k.is with
   | false =>
    rw[if_pos rfl]
    refine⟨List.prefix_refl _,fun e=>by grind [yZ],fun _=>⟨td,d++[p],?_⟩⟩
    simp_all[coS,CfV.map]
   | true =>
    rw[if_neg (by decide)]
    have:coS (.there (.scan w)) k ⟨td,(y7 kn p s).1,d++[p]⟩=⟨((z7 k.data).map fun x=>.line x w)++td,(y7 kn p s).1,d++[p]⟩:=by
     grind [coS,thS]
    rw[this]at h7
    have ih:=uN (env:=env) (kn:=kn) (w:=w) (n:=n) (zdm kn w n) (fun p s d td a b c=>zco n p s d td a b c) (z7 k.data) (y7 kn p s).1 (d++[p]) td hi2 (by grind)
    exact⟨ih.pre,fun h=>⟨(ih.go h).1,h7.trans (ih.go h).2⟩,fun h=>by obtain⟨td',d',h1⟩:=ih.stop h;exact⟨td',d',h7.trans h1⟩⟩
  ·simp only at h1 h2
   rw[if_pos h1]
   exact⟨List.prefix_refl _,fun e=>absurd e h1,fun _=>⟨td',d++[p],h2⟩⟩
def ccR (r:y3):Nat:=r.todo.countP isC
structure Ef (b:Bool) (r r':y3):Prop where
 en:r'.env=r.env
 cc:ccR r'=ccR r
 ov:r'.over=r.over∨(r'.over.kind=4∧r'.over.why≠0)∨(b=true∧r'.over.kind=2∧r'.over.why=0)
 wo:r.waits=false→r'.waits=true→r'.over=r.over
theorem Ef.refl {b:Bool} (r:y3):Ef b r r:=⟨rfl,rfl,.inl rfl,fun _ _=>rfl⟩
theorem Ef.same {b:Bool} {r r':y3} (h1:r'.env=r.env) (h2:r'.todo=r.todo) (h3:r'.over=r.over):Ef b r r':=⟨h1,by grind [ccR],.inl h3,fun _ _=>h3⟩
theorem Ef.fail {b:Bool} (e:Int) (r:y3) (he:e≠0:=by decide):Ef b r (wC e r):=⟨rfl,rfl,.inr (.inl ⟨rfl,he⟩),fun h1 h2=>by simp_all[wC]⟩
theorem Ef.add {b:Bool} (t:Txt) (r:y3):Ef b r (wW t r):=by
 unfold wW
 split
 ·simp[fail]
 simp[same]
theorem Ef.lines {b:Bool} (t:List Txt) (r:y3):Ef b r (kS t r):=by
 have h:=Ef.add (b:=b) (t.flatMap (·++[10])) { r with buf:=[] }
 exact⟨h.en,h.cc,h.ov,h.wo⟩
theorem zhk (w:Txt) (l:List Txt):(l.map fun s=>TdV.line s w).countP isC=0:=by
 simp[isC]
theorem Ef.co {b:Bool} (k:CoV) (x:KnV) (r:y3):Ef b r (coR k x r):=by
 cases hx:x.is with
 | false =>
  cases k with
  | tr=>simp_all[coR,refl]
  | there t=>grind [coR,fail]
 | true =>
  cases k with
  | tr=>grind [coR,add]
  | there t=>cases t with
   | add=>grind [coR,add,thR]
   | scan w =>
    rw[show coR (.there (.scan w)) x r={ r with todo:=r.todo++(z7 x.data).reverse.map fun s=>.line s w } by simp[coR,hx,thR]]
    exact⟨rfl,by have:=zhk w (z7 x.data).reverse;simp_all[ccR],.inl rfl,fun _ _=>rfl⟩
theorem Ef.ask {b:Bool} (p:Txt) (k:CoV) (r:y3):Ef b r (Q6 p k r):=by
 unfold Q6
 split
 ·simp[co]
 ·split
  ·simp[fail]
  ·exact⟨rfl,by simp[ccR,isC],.inl rfl,fun _ _=>rfl⟩
theorem Ef.scan {b:Bool} (p w:Txt) (r:y3):Ef b r (ZL p w r):=by
 have h:=Ef.ask (b:=b) p (.there (.scan w)) { r with seen:=r.seen++[p] }
 exact⟨h.en,h.cc,h.ov,h.wo⟩
theorem Ef.line {b:Bool} (s w:Txt) (r:y3):Ef b r (Z1 s w r):=by
 grind [Z1,add,refl,scan]
theorem Ef.turn {b:Bool} (n a:Txt) (r:y3):Ef b r (wK n a r):=by
 unfold wK
 split
 ·simp[lines]
 split
 ·simp[lines]
 split
 ·simp[same]
 split
 ·simp[same]
 grind [lines,refl]
theorem Ef.cmd (c:CmdV) (r:y3):Ef true r (doR c r):=by
 unfold doR
 simp only
 split
 ·simp[ask]
 split
 ·simp[ask]
 split
 ·have h:=Ef.scan (b:=true) (c.words.getD 1 []) (c.words.getD 2 []) { r with seen:=[] }
  exact⟨h.en,h.cc,h.ov,h.wo⟩
 split
 ·simp[add]
 split
 ·grind [add,fail]
 split
 ·exact⟨rfl,rfl,.inr (.inr ⟨rfl,rfl,rfl⟩),fun h1 h2=>by simp_all⟩
 grind [refl,fail,turn]
structure zg9 (r r':y3):Prop where
 en:r'.env=r.env
 cc:ccR r'≤ccR r
 ov:r'.over=r.over∨r'.over=⟨3,[],[],0⟩∨(r'.over.kind=4∧r'.over.why≠0)∨(r'.over.kind=2∧r'.over.why=0∧ccR r'<ccR r)
 wo:r.waits=false→r'.waits=true→r'.over=r.over
theorem zgh (r:y3):zg9 r (QL r):=by
 rcases List.eq_nil_or_concat r.todo with ht|⟨l,t,ht⟩
 ·rw[KT ht]
  exact⟨rfl,Nat.le_refl _,.inr (.inl rfl),fun h1 h2=>by simp_all⟩
 ·rw[List.concat_eq_append]at ht
  rw[KV ht]
  have hc:ccR r=ccR { r with todo:=l }+if isC t=true then 1 else 0:=by
   simp_all[ccR]
  have go:∀ {r':y3},Ef false { r with todo:=l } r'→zg9 r r':=fun h=>by
   refine⟨h.en,by rw[h.cc];omega,?_,h.wo⟩
   rcases h.ov with h|h|⟨h,_⟩
   ·exact .inl h
   ·omega
   ·cases h
  cases t with
  | cmd c =>
   have h:=Ef.cmd c { r with todo:=l }
   have hc':ccR r=ccR { r with todo:=l }+1:=hc
   refine⟨h.en,?_,?_,h.wo⟩
   ·have:=h.cc;simp_all[tdR]
   ·rcases h.ov with h1|h1|⟨_,h1,h9⟩
    ·exact .inl h1
    ·exact .inr (.inr (.inl h1))
    ·refine .inr (.inr (.inr ⟨h1,h9,?_⟩))
     have:=h.cc;simp_all[tdR]
  | line s w=>exact go (.line _ _ _)
  | ans k p=>exact go (.co _ _ _)
def OV (r:y3):Prop:=(r.over=do0∨(r.over.kind=2∧r.over.why=0)∨r.over=⟨3,[],[],0⟩∨(r.over.kind=4∧r.over.why≠0))∧(r.waits=true→r.over=do0)
theorem OV.zero {r:y3} (h:OV r) (h0:r.over.kind=0):r.over=do0:=by
 rcases h.1 with h|⟨h,_⟩|h|⟨h,_⟩
 ·exact h
 ·omega
 ·simp_all
 omega
theorem zg9.ovk {r r':y3} (h:zg9 r r') (h0:OV r) (hk:r.over.kind=0) (hw:r.waits=false):OV r':=by
 have hd:=h0.zero hk
 refine⟨?_,fun e=>(h.wo hw e).trans hd⟩
 rcases h.ov with h1|h1|h1|⟨h1,h9,_⟩
 ·simp_all
 ·simp_all
 ·omega
 omega
theorem zaK {r:y3} (h:¬kL r=true):r.over.kind=0∧r.waits=false:=by
 simp_all[kL]
theorem zaM (env:List (Txt × Txt)) {kn:List KnV} (wr:List DoV):∀(n:Nat) {r r':y3},runN n r=some r'→JF r→OV r→r.env=env→r.known <+: kn→
  Q7 env kn (jV wr r) (jV wr r')∧OV r'∧r'.env=env∧ccR r'≤ccR r∧(r.over.kind=0→r'.over.kind=2→ccR r'<ccR r)
 | 0,r,r',h,_,_,_,_=>by cases h
 | n+1,r,r',h,hi,ho,he,hk=>by
  rw[runN]at h
  by_cases hs:kL r=true
  ·rw[if_pos hs]at h
   cases h
   exact⟨.refl _,ho,he,Nat.le_refl _,fun h1 h2=>by omega⟩
  ·rw[if_neg hs]at h
   obtain⟨h0,hw⟩:=zaK hs
   have hse:=zgh r
   have hst:=gV hi (by simp_all)
   obtain⟨g1,g2,g3,g4,g5⟩:=zaM env wr n h hst.1 (hse.ovk ho h0 hw) (hse.en.trans he) (by rw[hst.2.2];exact hk)
   refine⟨(zgD env wr hi he hk hw (ho.zero h0)).trans g1,g2,g3,Nat.le_trans g4 hse.cc,fun _ h2=>?_⟩
   have stuck:(QL r).over.kind≠0→r'=QL r:=fun h1=>by
    have hst2:kL (QL r)=true:=by simp[kL,h1]
    cases n with
    | zero=>cases h
    | succ n=>simp_all[runN]
   rcases hse.ov with h1|h1|⟨h1,_⟩|⟨h1,_,h3⟩
   ·exact Nat.lt_of_lt_of_le (g5 (by simp_all) h2) hse.cc
   ·simp_all
   ·simp_all
   ·omega
theorem p9 {r:y3} (h:kL r=true):kI r=r:=by
 simp_all[kI,runN]
structure AtR (env:List (Txt × Txt)) (c0:CfV) (kn:List KnV) (wr:List DoV) (r:y3):Prop where
 inv:JF r
 ov:OV r
 en:r.env=env
 kno:r.known=kn
 runs:∀kn',kn <+: kn'→Q7 env kn' c0 (jV wr r)
theorem AtR.settle {env:List (Txt × Txt)} {c0:CfV} {kn:List KnV} {wr:List DoV} {r:y3} (h:AtR env c0 kn wr r):AtR env c0 kn wr (kI r)∧ccR (kI r)≤ccR r∧(r.over.kind=0→(kI r).over.kind=2→ccR (kI r)<ccR r):=by
 obtain⟨h1,h2,h3,h4⟩:=yW h.inv
 have hr:=fun kn' (hk:kn <+: kn')=>zaM env wr _ h1 h.inv h.ov h.en (kn:=kn') (by rw[h.kno];exact hk)
 obtain⟨_,g2,g3,g4,g5⟩:=hr kn (List.prefix_refl _)
 exact⟨⟨h2,g2,g3,h4.trans h.kno,fun kn' hk=>(h.runs kn' hk).trans (hr kn' hk).1⟩,g4,g5⟩
structure JB (env:List (Txt × Txt)) (c0:CfV) (kn:List KnV) (wr:List DoV) (r:y3) (d:DoV):Prop where
 at_:AtR env c0 kn wr r
 stops:kL r=true
 no2:r.over.kind≠2
 waits:d.kind=1↔r.waits=true
 asks:r.waits=true→d=⟨1,r.asks,[],0⟩
 over:r.waits=false→d=r.over
 ref:∃c,Q7 env kn c0 c∧c.st.stop=d∧c.st.stop.kind≠0∧c.st.wrote=wr
theorem AtR.next {env:List (Txt × Txt)} {c0:CfV} {kn:List KnV} {wr:List DoV} {r:y3} (h:AtR env c0 kn wr r) (h0:r.over.kind≠2) :
  ((w9 r).1.kind=2∧AtR env c0 kn (wr++[(w9 r).1]) (w9 r).2∧ccR (w9 r).2<ccR r∧(w9 r).2.over.kind=0)∨JB env c0 kn wr (w9 r).2 (w9 r).1:=by
 obtain⟨hs,hc,hc2⟩:=h.settle
 have hst:=(yW h.inv).2.2.1
 obtain⟨s,hse⟩:∃s,s=kI r:=⟨_,rfl⟩
 have hn:w9 r=(if s.waits=true then(⟨1,s.asks,[],0⟩,s) else(s.over,if s.over.kind=2 then { s with over:=do0 } else s)):=by rw[hse];rfl
 have hr0:s.over.kind=2→r.over.kind=0:=fun h2=>by
  apply Classical.byContradiction
  grind [kL,p9]
 rw[←hse]at hs hc hc2 hst
 rw[hn]
 by_cases hw:s.waits=true
 ·rw[if_pos hw]
  have ho:=hs.ov.2 hw
  rcases hs.inv with⟨_,h2⟩|⟨l,k,p,e,h2,h3,h4,_⟩
  ·simp_all
  ·obtain⟨g1,g2,g3⟩:=h4 hw
   refine .inr ⟨hs,hst,by rw[ho];decide,by simp[hw],fun _=>rfl,fun e=>(by simp_all),?_⟩
   have htd:(jV wr s).td=.ans k p::l.reverse:=by simp[jV,e]
   have hso:(jV wr s).st.stop=do0:=by simp[jV,ho,do0]
   refine⟨_,(hs.runs kn (List.prefix_refl _)).trans (.step (by rw[hso];rfl) (.refl _)),?_⟩
   have hf:zQ kn p=none:=by rw[←hs.kno];exact g2
   simp_all[J6,CfV.map,jV,do0]
 ·rw[if_neg hw]
  have hw':s.waits=false:=by simp_all
  have hk0:s.over.kind≠0:=by
   simp_all[kL]
  by_cases h2:s.over.kind=2
  ·rw[if_pos h2]
   refine .inl ⟨h2,⟨?_,⟨.inl rfl,fun _=>rfl⟩,hs.en,hs.kno,fun kn' hk=>?_⟩,hc2 (hr0 h2) h2,rfl⟩
   ·exact hs.inv.of_same rfl rfl rfl rfl rfl rfl
   ·have:=hs.runs kn' hk
    simp_all[jV,do0]
  ·rw[if_neg h2]
   refine .inr ⟨hs,hst,h2,?_,fun e=>absurd e hw,fun _=>rfl,jV wr s,hs.runs kn (List.prefix_refl _),by simp[jV,h2],by simp_all[jV],by simp[jV,h2]⟩
   constructor
   ·intro e1
    rcases hs.ov.1 with h|⟨h,_⟩|h|⟨h,_⟩
    ·rw[h]at e1;cases e1
    ·omega
    ·simp_all
    simp_all
   simp_all
theorem JB.give {env:List (Txt × Txt)} {c0:CfV} {kn:List KnV} {wr:List DoV} {r:y3} {d:DoV} (h:JB env c0 kn wr r d) (k:KnV) (hw:r.waits=true) (hp:k.path=r.asks) (hd:k.is=true→k.data.length≤65536) :
  (QB k r).1=0∧AtR env c0 (kn++[k]) wr (QB k r).2∧(QB k r).2.over.kind=0∧ccR (QB k r).2=ccR r:=by
 have hi:=zae h.at_.inv k (fun h=>by grind)
 have ho:=h.at_.ov.2 hw
 have hg:QB k r=(0,{ r with known:=r.known++[k],asks:=[],waits:=false }):=by
  unfold QB
  simp only[p9 h.stops]
  simp_all
 rw[hg]at hi ⊢
 refine⟨rfl,⟨hi,⟨.inl ho,fun e=>by cases e⟩,h.at_.en,by simp only[h.at_.kno],fun kn' hk=>?_⟩,by simp only[ho];rfl,rfl⟩
 have:=h.at_.runs kn' ((List.prefix_append kn [k]).trans hk)
 simp_all[jV]
end Go.Proofs.YtooipdkilgpojaaGreatDoor
end
