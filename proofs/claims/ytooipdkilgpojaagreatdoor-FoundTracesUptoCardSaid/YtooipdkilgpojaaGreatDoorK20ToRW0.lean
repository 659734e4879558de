/- The document's tool as small steps, and the program's tool beside it: plain. No condition beyond each theorem's own. -/
import Derived.Test.YtooipdkilgpojaaGreatDoorKM
import Derived.Test.YtooipdkilgpojaaGreatDoorQ0ToK5
import Derived.Test.YtooipdkilgpojaaGreatDoorL0
set_option linter.unusedSimpArgs false
set_option linter.unusedVariables false
set_option linter.unusedSectionVars false
section
set_option maxRecDepth 100000
namespace Go.Proofs.YtooipdkilgpojaaGreatDoor
open Go Go.Ab
open Classical
variable [Sel] [SelPow] [SelMax]
structure StV where
 buf:Txt
 asked:List Txt
 wrote:List DoV
 stop:DoV
structure CfV where
 td:List TdV
 st:StV
 done:List Txt
def st0:StV:=⟨[],[],[],do0⟩
def yZ (e:Int) (s:StV):StV:={ s with stop:=⟨4,[],[],e⟩ }
def yP (t:Txt) (s:StV):StV:=if 65536<s.buf.length+t.length then yZ 6 s else { s with buf:=s.buf++t }
def CfV.map (c:CfV) (f:StV→StV):CfV:={ c with st:=f c.st }
def VX (p:Txt) (k:CoV) (c:CfV):CfV :=
 if p∈c.st.asked then { c with td:=.ans k p::c.td }
 else if 500≤c.st.asked.length then c.map (yZ 6)
 else { c with td:=.ans k p::c.td,st:={ c.st with asked:=c.st.asked++[p] } }
def thS:ThV→Txt→CfV→CfV
 | .add,d,c=>c.map (yP d)
 | .scan w,d,c=>{ c with td:=((z7 d).map fun s=>.line s w)++c.td }
def coS:CoV→KnV→CfV→CfV
 | .there t,x,c=>if x.is=true then thS t x.data c else c.map (yZ 10)
 | .tr,x,c=>if x.is=true then c.map (yP x.data) else c
def zb0 (p w:Txt) (c:CfV):CfV:=VX p (.there (.scan w)) { c with done:=c.done++[p] }
def D4 (s w:Txt) (c:CfV):CfV :=
 match zR s with
 | [a,p]=>if a≠w∨yV p=false then c.map (yP (s++[10])) else if p∈c.done then c else zb0 p w c
 | _=>c.map (yP (s++[10]))
noncomputable def cS (name arg buf:Txt):Txt :=
 if name=wP then(kK (z7 buf)).flatMap (·++[10])
 else if name=y4 then(kF (z7 buf)).flatMap (·++[10])
 else if name=kV then buf.map upB
 else if name=kY then Lib.itoa (z7 buf).length++[10]
 else if name=wQ then((z7 buf).filter fun s=>Lib.contains s arg).flatMap (·++[10])
 else buf
noncomputable def V6 (env:List (Txt × Txt)) (c:CmdV) (f:CfV):CfV :=
 let w:=c.words.getD 0 []
 let arg:=c.words.getD 1 []
 if w=zZ then VX arg (.there .add) f
 else if w=w8 then VX arg .tr f
 else if w=jT then zb0 arg (c.words.getD 2 []) { f with done:=[] }
 else if w=tText then f.map (yP (c.rest++[10]))
 else if w=yO then(match env.find? fun x=>decide (x.1=arg)with
  | some x=>f.map (yP x.2)
  | none=>f.map (yZ 10))
 else if w=j8 then f.map fun s=>{ s with wrote:=s.wrote++[⟨2,arg,s.buf,0⟩],buf:=[] }
 else if w=kG then(if (z7 f.st.buf).any (fun s=>Lib.contains s arg)=true then f else f.map (yZ 15))
 else if w=yR then f.map (yZ 15)
 else f.map fun s=>yP (cS w arg s.buf) { s with buf:=[] }
noncomputable def J6 (env:List (Txt × Txt)) (kn:List KnV) (c:CfV):CfV:=match c.td with
 | []=>c.map fun s=>{ s with stop:=⟨3,[],[],0⟩ }
 | .cmd x::l=>V6 env x { c with td:=l }
 | .line s w::l=>D4 s w { c with td:=l }
 | .ans k p::l=>(match zQ kn p with
  | some x=>coS k x { c with td:=l }
  | none=>CfV.map { c with td:=l } fun s=>{ s with stop:=⟨1,p,[],0⟩ })
inductive Q7 (env:List (Txt × Txt)) (kn:List KnV):CfV→CfV→Prop
 | refl (c):Q7 env kn c c
 | step {c c'}:c.st.stop.kind=0→Q7 env kn (J6 env kn c) c'→Q7 env kn c c'
theorem Q7.trans {env:List (Txt × Txt)} {kn:List KnV} {a b c:CfV} (h:Q7 env kn a b) (g:Q7 env kn b c):Q7 env kn a c:=by
 induction h with
 | refl=>exact g
 | step h _ ih=>exact .step h (ih g)
theorem Q7.one {env:List (Txt × Txt)} {kn:List KnV} {a:CfV} (h:a.st.stop.kind=0):Q7 env kn a (J6 env kn a):=.step h (.refl _)
theorem Q7.det {env:List (Txt × Txt)} {kn:List KnV} {a b c:CfV} (h:Q7 env kn a b) (g:Q7 env kn a c) (hb:b.st.stop.kind≠0) (hc:c.st.stop.kind≠0):b=c:=by
 induction h with
 | refl =>
  cases g with
  | refl=>rfl
  | step h1 _=>exact absurd h1 hb
 | step h1 _ ih =>
  cases g with
  | refl=>exact absurd h1 hc
  | step _ g1=>exact ih g1 hb
/-! ### the program's tool, seen so -/
noncomputable def jV (wr:List DoV) (r:RunV):CfV :=
 ⟨r.todo.reverse,⟨r.buf,r.known.map (·.path)++(if r.waits=true then [r.asks] else []),if r.over.kind=2 then wr++[r.over] else wr,if r.over.kind=2 then do0 else r.over⟩,r.seen⟩
theorem PP (wr:List DoV) {r:RunV} (hw:r.waits=false) (ho:r.over=do0):jV wr r=⟨r.todo.reverse,⟨r.buf,r.known.map (·.path),wr,do0⟩,r.seen⟩:=by
 simp[jV,hw,ho,do0]
theorem zaC {kn kn':List KnV} {p:Txt} {x:KnV} (h:kn <+: kn') (hf:zQ kn p=some x):zQ kn' p=some x:=by
 obtain⟨m,rfl⟩:=h
 unfold zQ at *
 rw[List.find?_append,hf];rfl
theorem ze4 {kn:List KnV} {p:Txt} {x:KnV} (hf:zQ kn p=some x):p∈kn.map (·.path):=by
 obtain⟨h1,h2⟩:=KP hf
 exact List.mem_map.2 ⟨x,h1,h2⟩
theorem uZ {kn:List KnV} {p:Txt} (hf:zQ kn p=none):p∉kn.map (·.path):=by
 intro h
 obtain⟨x,h1,h2⟩:=List.mem_map.1 h
 have:=List.find?_eq_none.1 hf x h1
 simp[h2]at this
structure zsH (wr:List DoV) (r r':RunV) (c:CfV):Prop where
 eq:jV wr r'=c
theorem KS (wr:List DoV) (e:Int) {r:RunV} (hw:r.waits=false) (ho:r.over=do0):jV wr (wC e r)=(jV wr r).map (yZ e):=by
 simp[jV,wC,CfV.map,yZ,hw,ho,do0]
theorem ZW (wr:List DoV) (t:Txt) {r:RunV} (hw:r.waits=false) (ho:r.over=do0):jV wr (wW t r)=(jV wr r).map (yP t):=by
 unfold wW
 split
 ·rename_i h
  rw[KS wr 6 hw ho]
  simp[jV,CfV.map,yP,h]
 ·rename_i h
  simp[jV,CfV.map,yP,h,hw,ho,do0]
theorem zg7 (wr:List DoV) (k:CoV) (x:KnV) {r:RunV} (hw:r.waits=false) (ho:r.over=do0):jV wr (coR k x r)=coS k x (jV wr r):=by
 cases hx:x.is with
 | false =>
  cases k with
  | tr=>simp[coR,coS,hx]
  | there t=>simp[coR,coS,hx,KS wr 10 hw ho]
 | true =>
  cases k with
  | tr=>simp[coR,coS,hx,ZW wr x.data hw ho]
  | there t=>cases t with
   | add=>simp[coR,coS,hx,thR,thS,ZW wr x.data hw ho]
   | scan w=>simp[coR,coS,hx,thR,thS,jV,hw,ho,do0,List.map_reverse]
theorem P9 (env:List (Txt × Txt)) {kn:List KnV} (wr:List DoV) (p:Txt) (k:CoV) {r:RunV} (hk:r.known <+: kn) (hw:r.waits=false) (ho:r.over=do0):Q7 env kn (VX p k (jV wr r)) (jV wr (Q6 p k r)):=by
 have e:=PP wr hw ho
 unfold Q6
 cases hf:zQ r.known p with
 | some x =>
  have h1:=ze4 hf
  have h2:=zaC hk hf
  have ha:p∈(jV wr r).st.asked:=by rw[e];exact h1
  simp only[VX,ha,if_true]
  refine .step (by rw[e];rfl) ?_
  simp only[J6,h2]
  rw[zg7 wr k x hw ho]
  exact .refl _
 | none =>
  have h1:=uZ hf
  have ha:¬p∈(jV wr r).st.asked:=by rw[e];exact h1
  have hl:(jV wr r).st.asked.length=r.known.length:=by rw[e];simp
  simp only[VX,ha,if_false,hl]
  by_cases h5:500≤r.known.length
  ·simp only[h5,if_true]
   rw[KS wr 6 hw ho]
   exact .refl _
  ·simp only[h5,if_false]
   have:jV wr { r with asks:=p,waits:=true,todo:=r.todo++[.ans k p] }={ jV wr r with td:=.ans k p::(jV wr r).td,st:={ (jV wr r).st with asked:=(jV wr r).st.asked++[p] } }:=by
    rw[e];simp[jV,ho,do0]
   rw[this]
   exact .refl _
theorem zbb (env:List (Txt × Txt)) {kn:List KnV} (wr:List DoV) (p w:Txt) {r:RunV} (hk:r.known <+: kn) (hw:r.waits=false) (ho:r.over=do0):Q7 env kn (zb0 p w (jV wr r)) (jV wr (ZL p w r)):=by
 have:=P9 env wr p (.there (.scan w)) (r:={ r with seen:=r.seen++[p] }) hk hw ho
 exact this
theorem zgT (env:List (Txt × Txt)) {kn:List KnV} (wr:List DoV) (s w:Txt) {r:RunV} (hk:r.known <+: kn) (hw:r.waits=false) (ho:r.over=do0):Q7 env kn (D4 s w (jV wr r)) (jV wr (Z1 s w r)):=by
 unfold D4 Z1
 generalize zR s=ws
 rcases ws with _|⟨a,_|⟨p,_|⟨q,l⟩⟩⟩
 ·simp only;rw[ZW wr _ hw ho];exact .refl _
 ·simp only;rw[ZW wr _ hw ho];exact .refl _
 ·simp only
  by_cases h1:a≠w∨yV p=false
  ·rw[if_pos h1,if_pos h1,ZW wr _ hw ho];exact .refl _
  ·rw[if_neg h1,if_neg h1]
   have:(jV wr r).done=r.seen:=rfl
   rw[this]
   by_cases h2:p∈r.seen
   ·rw[if_pos h2,if_pos h2];exact .refl _
   ·rw[if_neg h2,if_neg h2];exact zbb env wr _ w hk hw ho
 ·simp only;rw[ZW wr _ hw ho];exact .refl _
theorem d9 (wr:List DoV) (b:Txt) {r:RunV} (hw:r.waits=false) (ho:r.over=do0):jV wr { r with buf:=b }=(jV wr r).map fun s=>{ s with buf:=b }:=by
 simp[jV,CfV.map]
theorem dK (t:Txt) (s:StV) (h:t.length≤65536):yP t { s with buf:=[] }={ s with buf:=t }:=by
 have:¬65536<t.length:=by omega
 simp[yP,this]
theorem UK (wr:List DoV) (l:List Txt) {r:RunV} (hw:r.waits=false) (ho:r.over=do0):jV wr (kS l r)=(jV wr r).map fun s=>yP (l.flatMap (·++[10])) { s with buf:=[] }:=by
 unfold kS
 rw[ZW wr _ (r:={ r with buf:=[] }) hw ho,d9 wr [] hw ho]
 rfl
theorem zgL (wr:List DoV) (n a:Txt) {r:RunV} (hw:r.waits=false) (ho:r.over=do0) (hb:r.buf.length≤65536):jV wr (wK n a r)=(jV wr r).map fun s=>yP (cS n a s.buf) { s with buf:=[] }:=by
 have eb:(jV wr r).st.buf=r.buf:=rfl
 unfold wK cS
 simp only[CfV.map,eb]
 split
 ·rw[UK wr _ hw ho];rfl
 split
 ·rw[UK wr _ hw ho];rfl
 split
 ·rw[dK _ _ (by simpa using hb)]
  exact d9 wr _ hw ho
 split
 ·have h1:=ZE r.buf
  have h2:(Lib.itoa ((z7 r.buf).length:Int)).length≤21:=Lib.itoa_length_le _ (by omega) (by omega)
  rw[dK _ _ (by simp only[List.length_append,List.length_cons,List.length_nil];omega)]
  exact d9 wr _ hw ho
 split
 ·rw[UK wr _ hw ho];rfl
 ·rw[dK _ _ hb]
  simp[jV]
theorem zj6 (env:List (Txt × Txt)) {kn:List KnV} (wr:List DoV) (c:CmdV) {r:RunV} (he:r.env=env) (hk:r.known <+: kn) (hw:r.waits=false) (ho:r.over=do0) (hb:r.buf.length≤65536):Q7 env kn (V6 env c (jV wr r)) (jV wr (doR c r)):=by
 have e:=PP wr hw ho
 have eb:(jV wr r).st.buf=r.buf:=rfl
 subst he
 unfold V6 doR
 simp only
 split
 ·exact P9 _ wr _ _ hk hw ho
 split
 ·exact P9 _ wr _ _ hk hw ho
 split
 ·exact zbb _ wr _ _ (r:={ r with seen:=[] }) hk hw ho
 split
 ·rw[ZW wr _ hw ho];exact .refl _
 split
 ·cases hf:(r.env.find? fun x=>decide (x.1=c.words.getD 1 []))with
  | some x=>simp only;rw[ZW wr _ hw ho];exact .refl _
  | none=>simp only;rw[KS wr _ hw ho];exact .refl _
 split
 ·have:jV wr { r with over:=⟨2,c.words.getD 1 [],r.buf,0⟩,buf:=[] }=(jV wr r).map fun s=>{ s with wrote:=s.wrote++[⟨2,c.words.getD 1 [],s.buf,0⟩],buf:=[] }:=by
   rw[e];simp[jV,CfV.map,hw]
  rw[this];exact .refl _
 split
 ·rw[eb]
  split
  ·exact .refl _
  ·rw[KS wr _ hw ho];exact .refl _
 split
 ·rw[KS wr _ hw ho];exact .refl _
 ·rw[zgL wr _ _ hw ho hb];exact .refl _
theorem zgD (env:List (Txt × Txt)) {kn:List KnV} (wr:List DoV) {r:RunV} (hi:JF r) (he:r.env=env) (hk:r.known <+: kn) (hw:r.waits=false) (ho:r.over=do0):Q7 env kn (jV wr r) (jV wr (QL r)):=by
 have e:=PP wr hw ho
 refine .step (by rw[e];rfl) ?_
 rcases List.eq_nil_or_concat r.todo with ht|⟨l,t,ht⟩
 ·rw[KT ht]
  have:J6 env kn (jV wr r)=jV wr { r with over:=⟨3,[],[],0⟩ }:=by
   rw[e];simp[J6,ht,CfV.map,jV,hw]
  rw[this];exact .refl _
 ·rw[List.concat_eq_append]at ht
  rw[KV ht]
  have htd:(jV wr r).td=t::l.reverse:=by rw[e];simp[ht]
  have hr:({ jV wr r with td:=l.reverse }:CfV)=jV wr { r with todo:=l }:=rfl
  have hbuf:r.buf.length≤65536:=by
   rcases hi with⟨h,_⟩|⟨_,_,_,_,h,_⟩
   ·exact h.buf
   ·exact h.buf
  cases t with
  | cmd c =>
   simp only[J6,htd,hr,tdR]
   exact zj6 env wr c (r:={ r with todo:=l }) he hk hw ho hbuf
  | line s w =>
   simp only[J6,htd,hr,tdR]
   exact zgT env wr s w (r:={ r with todo:=l }) hk hw ho
  | ans k p =>
   simp only[J6,htd,hr,tdR]
   have hf:∃x,zQ r.known p=some x:=by
    rcases hi with⟨h,_⟩|⟨l',k',p',h1,h2,h3,h4,h5⟩
    ·obtain⟨a,b,h1,h2,h3⟩:=h.ord
     have hm:TdV.ans k p∈a++b:=by rw[←h1,ht];simp
     rcases List.mem_append.1 hm with hm|hm
     ·have:=h2 _ hm;simp[isC]at this
     ·have:=h3 _ hm;simp[isL]at this
    ·rw[ht]at h1
     obtain⟨_,h6⟩:=List.append_inj' h1 rfl
     cases h6
     exact h5 hw
   obtain⟨x,hf⟩:=hf
   have h2:=zaC hk hf
   have h3:(zQ { r with todo:=l }.known p).getD kn0=x:=by simp[hf]
   rw[h3]
   simp only[h2]
   rw[zg7 wr k x (r:={ r with todo:=l }) hw ho]
   exact .refl _
def xP:Txt→Txt
 | []=>[]
 | c::r=>if vV c=true then xP r else c::r
def Q2:Txt→Txt
 | []=>[]
 | c::r=>if vV c=true then c::r else Q2 r
def V9 (l:Txt):Txt:=(Q2 (xP l)).drop 1
theorem p7:∀l:Txt,kA [] l=kA [] (xP l)
 | []=>rfl
 | c::r=>by
  unfold xP
  split
  ·rename_i h
   rw[kA,if_pos h,if_pos rfl]
   exact p7 r
  ·rfl
theorem PO:∀(l cur:Txt),cur≠[]→kA cur l=(cur++l.take (l.length-(Q2 l).length))::kA [] (Q2 l)
 | [],cur,h=>by simp[kA,Q2,h]
 | c::r,cur,h=>by
  unfold Q2
  split
  ·rename_i hc
   rw[kA,if_pos hc,if_neg h]
   rw[kA,if_pos hc,if_pos rfl]
   simp
  ·rename_i hc
   rw[kA,if_neg hc,PO r (cur++[c]) (by simp)]
   have:(Q2 r).length≤r.length:=by
    have:∀q:Txt,(Q2 q).length≤q.length:=by
     intro q
     induction q with
     | nil=>simp[Q2]
     | cons x q ih=>unfold Q2;split<;>simp;omega
    exact this r
   rw[show (c::r).length-(Q2 r).length=r.length-(Q2 r).length+1 by simp;omega]
   simp
theorem zaI:∀q:Txt,(Q2 q).length≤q.length
 | []=>by simp[Q2]
 | x::q=>by
  have:=zaI q
  unfold Q2;split<;>simp;omega
theorem GH:∀q:Txt,q=q.take (q.length-(Q2 q).length)++Q2 q
 | []=>rfl
 | c::r=>by
  have hl:=zaI r
  have ih:=GH r
  unfold Q2
  split
  ·simp
  ·rw[show (c::r).length-(Q2 r).length=r.length-(Q2 r).length+1 by simp;omega,List.take_succ_cons,List.cons_append,←ih]
theorem GT:∀l:Txt,∃b,l=b++xP l∧∀c∈b,vV c=true
 | []=>⟨[],rfl,by simp⟩
 | c::r=>by
  unfold xP
  split
  ·rename_i h
   obtain⟨b,h1,h2⟩:=GT r
   exact⟨c::b,by rw[List.cons_append,←h1],fun x hx=>by
    rcases List.mem_cons.1 hx with rfl|hx
    ·exact h
    ·exact h2 x hx⟩
  ·exact⟨[],rfl,by simp⟩
theorem zfx {l w:Txt} {ws:List Txt} (h:zR l=w::ws):xP l=w++Q2 (xP l):=by
 rw[zR,p7]at h
 cases hd:xP l with
 | nil=>rw[hd]at h;simp[kA]at h
 | cons c r =>
  have hc:vV c=false:=by
   have:∀q:Txt,∀ {c r},xP q=c::r→vV c=false:=by
    intro q
    induction q with
    | nil=>intro c r e;cases e
    | cons x q ih =>
     intro c r e
     unfold xP at e
     split at e
     ·exact ih e
     ·rename_i hx
      cases e;simpa using hx
   exact this l hd
  rw[hd,kA,if_neg (by simp[hc]),List.nil_append,PO r [c] (by simp)]at h
  obtain⟨h1,_⟩:=List.cons.inj h
  have hs:=GH r
  have hw:Q2 (c::r)=Q2 r:=by rw[Q2,if_neg (by simp[hc])]
  rw[hw,←h1,List.singleton_append,List.cons_append,←hs]
theorem zcE {l:Txt} {ws:List Txt} (h:zR l=tText::ws):(l.drop ((Lib.index l tText).toNat+4)).drop 1=V9 l:=by
 obtain⟨b,h1,h2⟩:=GT l
 have h3:=zfx h
 have hl:l=b++(tText++Q2 (xP l)):=by rw[←h3];exact h1
 have hocc:Lib.occAt l tText b.length=true:=by
  unfold Lib.occAt
  rw[hl]
  simp[List.isPrefixOf_iff_prefix]
 have hno:∀j,j<b.length→Lib.occAt l tText j=false:=by
  intro j hj
  unfold Lib.occAt
  have hd:l.drop j=b[j]::l.drop (j+1):=by
   have hjl:j<l.length:=by rw[hl];simp;omega
   rw[List.drop_eq_getElem_cons hjl]
   congr 1
   rw[List.getElem_of_eq hl,List.getElem_append_left hj]
  rw[hd]
  have hs:=h2 b[j] (List.getElem_mem hj)
  have hne:¬b[j]=116:=by
   intro e
   rw[e]at hs
   revert hs
   decide
  have hne':¬(116:UInt8)=b[j]:=fun e=>hne e.symm
  simp[tText,List.isPrefixOf,hne']
 have hi:=Lib.index_first (by rw[hl];simp) hocc hno
 rw[hi]
 unfold V9
 congr 1
 simp only[Int.toNat_natCast]
 conv=>lhs;rw[hl]
 rw[List.drop_append,List.drop_of_length_le (by omega),List.nil_append,show b.length+4-b.length=tText.length by simp[tText],List.drop_left]
end Go.Proofs.YtooipdkilgpojaaGreatDoor
end
section
set_option maxRecDepth 100000
namespace Go.Proofs.YtooipdkilgpojaaGreatDoor
open Go Go.Ab
open Classical
variable [Sel]
theorem KB {α β:Type} (f:α→β) (l:List α) (k:Nat) (h:k<l.length):(l.map f)[k]?=some (f l[k]):=by rw[List.getElem?_map,List.getElem?_eq_getElem h];rfl
end Go.Proofs.YtooipdkilgpojaaGreatDoor
end
section
set_option maxRecDepth 100000
namespace Go.Proofs.YtooipdkilgpojaaGreatDoor
open Go Go.Ab
open Classical
variable [Sel] [SelPow] [SelMax]
def zoT (w:Txt) (ws:List Txt):Bool :=
 if w=tText then true
 else if w=zZ∨w=w8∨w=j8 then decide (ws.length=1)&&yV (ws.getD 0 [])
 else if w=jT then decide (ws.length=2)&&yV (ws.getD 0 [])
 else if w=yO∨w=wQ∨w=kG then decide (ws.length=1)
 else if w=wP∨w=y4∨w=kV∨w=kY∨w=yR then decide (ws.length=0)
 else false
def U4:List Txt→Bool
 | []=>true
 | w::_=>decide (w.head?=some 35)
def vH (l:List Txt):Bool:=U4 l||(match l with|[]=>true|w::ws=>zoT w ws)
theorem vB (s:Txt):(Z0 s=none)↔vH (zR s)=false:=by
 unfold Z0 vH U4
 cases hw:zR s with
 | nil=>simp
 | cons w ws =>
  simp only
  by_cases h1:w.head?=some 35
  ·simp[h1]
  ·rw[if_neg h1]
   simp only[h1,decide_false,Bool.false_or]
   unfold zoT jU
   by_cases h2:w=tText
   ·simp[h2]
   rw[if_neg h2,if_neg h2]
   by_cases h3:w=zZ∨w=w8∨w=j8
   ·simp only[h3,if_true]
    by_cases h5:ws.length=1
    ·cases hm:yV (ws.getD 0 [])<;>simp[h5,hm]
    ·have:¬(2:Int)=ws.length+1:=by omega
     simp[h5,this]
   rw[if_neg h3,if_neg h3]
   by_cases h4:w=jT
   ·simp only[h4,if_true]
    by_cases h5:ws.length=2
    ·cases hm:yV (ws.getD 0 [])<;>simp[h5,hm]
    ·have:¬(3:Int)=ws.length+1:=by omega
     simp[h5,this]
   rw[if_neg h4,if_neg h4]
   by_cases h6:w=yO∨w=wQ∨w=kG
   ·simp only[h6,if_true]
    by_cases h5:ws.length=1
    ·simp[h5]
    ·have:¬(2:Int)=ws.length+1:=by omega
     simp[h5,this]
   rw[if_neg h6,if_neg h6]
   by_cases h7:w=wP∨w=y4∨w=kV∨w=kY∨w=yR
   ·simp only[h7,if_true]
    by_cases h5:ws.length=0
    ·simp[h5]
    ·have:¬(1:Int)=ws.length+1:=by omega
     simp[h5,this]
   rw[if_neg h7,if_neg h7]
   simp
def zbZ:List Txt→Option Nat
 | []=>none
 | s::r=>if vH (zR s)=true then(zbZ r).map (·+1) else some 1
theorem zb7:∀(l:List Txt) (i:Nat),(∀n,zbZ l=some n→yC i l=.error (i+n))∧(zbZ l=none→∃cs,yC i l=.ok cs)
 | [],i=>⟨fun n h=>(by cases h),fun _=>⟨[],rfl⟩⟩
 | s::r,i=>by
  obtain⟨ih1,ih2⟩:=zb7 r (i+1)
  unfold zbZ
  cases hg:vH (zR s)with
  | false =>
   have hn:=(vB s).2 hg
   simp only[Bool.false_eq_true,if_false]
   refine⟨fun n h=>?_,fun h=>by cases h⟩
   cases h
   rw[yC,hn]
  | true =>
   have hn:Z0 s≠none:=fun e=>by rw[(vB s).1 e]at hg;cases hg
   simp only[if_true]
   obtain⟨x,hx⟩:=Option.ne_none_iff_exists'.1 hn
   refine⟨fun n h=>?_,fun h=>?_⟩
   ·obtain⟨m,hm,rfl⟩:=Option.map_eq_some_iff.1 h
    have:=ih1 m hm
    rw[yC,hx]
    cases x with
    | none=>simp only;rw[this];congr 1;omega
    | some c=>simp only;rw[this];simp only;congr 1;omega
   ·have h':zbZ r=none:=by
     cases hb:zbZ r with
     | none=>rfl
     | some m=>rw[hb]at h;cases h
    obtain⟨cs,hcs⟩:=ih2 h'
    rw[yC,hx]
    cases x with
    | none=>exact⟨cs,hcs⟩
    | some c=>simp only;rw[hcs];exact⟨c::cs,rfl⟩
def DV (t:Txt):Int × Int:=if 65536<t.length∨400<(z7 t).length then(6,0) else match zbZ (z7 t)with
 | some n=>(3,n)
 | none=>(0,0)
theorem ze5 (t:Txt):(∃cs,j7 t=.ok cs∧DV t=(0,0))∨∃e n,j7 t=.error (e,n)∧DV t=(e,(n:Int))∧e≠0:=by
 unfold j7 DV
 by_cases h:65536<t.length∨400<(z7 t).length
 ·rw[if_pos h,if_pos h];exact .inr ⟨6,0,rfl,rfl,by decide⟩
 rw[if_neg h,if_neg h]
 obtain⟨h1,h2⟩:=zb7 (z7 t) 0
 cases hb:zbZ (z7 t)with
 | none =>
  obtain⟨cs,hcs⟩:=h2 hb
  rw[hcs];exact .inl ⟨cs,rfl,rfl⟩
 | some n =>
  rw[h1 n hb]
  exact .inr ⟨3,0+n,rfl,by simp,by decide⟩
end Go.Proofs.YtooipdkilgpojaaGreatDoor
end
