/- The document's tool as small steps, and the program's tool beside it: . No condition. -/
import Derived.Test.YtfkcpballfhddaaGreatDoorKM
set_option linter.unusedSimpArgs false
set_option linter.unusedVariables false
set_option linter.unusedSectionVars false
set_option maxRecDepth 100000
namespace Go.Proofs.YtfkcpballfhddaaGreatDoor
open Go Go.Ab
open Classical
section
variable [Sel] [SelPow] [SelMax]
structure StV where
 buf:Txt
 asked:List Txt
 wrote:List DoV
 stop:DoV
structure CfV where
 td:List TdV
 st:StV
 done:List Txt
def st0:StV:=⟨[],[],[],do0⟩
def ZG (e:Int) (s:StV):StV:={ s with stop:=⟨4,[],[],e⟩ }
def Z4 (t:Txt) (s:StV):StV:=if 65536<s.buf.length+t.length then ZG 6 s else { s with buf:=s.buf++t }
def CfV.map (c:CfV) (f:StV->StV):CfV:={ c with st:=f c.st }
def c9 (p:Txt) (k:CoV) (c:CfV):CfV :=
 if p∈c.st.asked then { c with td:=.ans k p::c.td }
 else if 500<=c.st.asked.length then c.map (ZG 6)
 else { c with td:=.ans k p::c.td,st:={ c.st with asked:=c.st.asked++[p] } }
def thS:ThV->Txt->CfV->CfV
 | .add,d,c=>c.map (Z4 d)
 | .scan w,d,c=>{ c with td:=((qZ d).map fun s=>.line s w)++c.td }
def coS:CoV->KnV->CfV->CfV
 | .there t,x,c=>if x.is=true then thS t x.data c else c.map (ZG 10)
 | .tr,x,c=>if x.is=true then c.map (Z4 x.data) else c
def zdi (p w:Txt) (c:CfV):CfV:=c9 p (.there (.scan w)) { c with done:=c.done++[p] }
def zb9 (s w:Txt) (c:CfV):CfV :=
 match z6 s with
 | [a,p]=>if a≠w\/jQ p=false then c.map (Z4 (s++[10])) else if p∈c.done then c else zdi p w c
 | _=>c.map (Z4 (s++[10]))
noncomputable def zbj (name arg buf:Txt):Txt :=
 if name=zR then(kU (qZ buf)).flatMap (·++[10])
 else if name=zW then(kH (qZ buf)).flatMap (·++[10])
 else if name=qY then buf.map upB
 else if name=z7 then Lib.itoa (qZ buf).length++[10]
 else if name=zS then((qZ buf).filter fun s=>Lib.contains s arg).flatMap (·++[10])
 else buf
noncomputable def PN (env:List (Txt × Txt)) (c:CmdV) (f:CfV):CfV :=
 let w:=c.words.getD 0 []
 let arg:=c.words.getD 1 []
 if w=qW then c9 arg (.there .add) f
 else if w=jD then c9 arg .tr f
 else if w=zC then zdi arg (c.words.getD 2 []) { f with done:=[] }
 else if w=zH then f.map (Z4 (c.rest++[10]))
 else if w=jL then(match env.find? fun x=>decide (x.1=arg)with
  | some x=>f.map (Z4 x.2)
  | none=>f.map (ZG 10))
 else if w=qV then f.map fun s=>{ s with wrote:=s.wrote++[⟨2,arg,s.buf,0⟩],buf:=[] }
 else if w=zL then(if (qZ f.st.buf).any (fun s=>Lib.contains s arg)=true then f else f.map (ZG 15))
 else if w=zZ then f.map (ZG 15)
 else f.map fun s=>Z4 (zbj w arg s.buf) { s with buf:=[] }
noncomputable def KU (env:List (Txt × Txt)) (kn:List KnV) (c:CfV):CfV:=match c.td with
 | []=>c.map fun s=>{ s with stop:=⟨3,[],[],0⟩ }
 | .cmd x::l=>PN env x { c with td:=l }
 | .line s w::l=>zb9 s w { c with td:=l }
 | .ans k p::l=>(match jR kn p with
  | some x=>coS k x { c with td:=l }
  | none=>CfV.map { c with td:=l } fun s=>{ s with stop:=⟨1,p,[],0⟩ })
inductive ZF (env:List (Txt × Txt)) (kn:List KnV):CfV->CfV->Prop
 | refl (c):ZF env kn c c
 | step {c c'}:c.st.stop.kind=0->ZF env kn (KU env kn c) c'->ZF env kn c c'
theorem ZF.trans {env:List (Txt × Txt)} {kn:List KnV} {a b c:CfV} (h:ZF env kn a b) (g:ZF env kn b c):ZF env kn a c:=by
 induction h with
 | refl=>exact g
 | step h _ ih=>exact .step h (ih g)
theorem ZF.one {env:List (Txt × Txt)} {kn:List KnV} {a:CfV} (h:a.st.stop.kind=0):ZF env kn a (KU env kn a):=.step h (.refl _)
theorem ZF.det {env:List (Txt × Txt)} {kn:List KnV} {a b c:CfV} (h:ZF env kn a b) (g:ZF env kn a c) (hb:b.st.stop.kind≠0) (hc:c.st.stop.kind≠0):b=c:=by
 induction h with
 | refl =>
  cases g with
  | refl=>rfl
  | step h1 _=>omega
 | step h1 _ ih =>
  cases g with
  | refl=>omega
  | step _ g1=>simp_all
noncomputable def kO (wr:List DoV) (r:qN):CfV :=
 ⟨r.todo.reverse,⟨r.buf,r.known.map (·.path)++(if r.waits=true then [r.asks] else []),if r.over.kind=2 then wr++[r.over] else wr,if r.over.kind=2 then do0 else r.over⟩,r.seen⟩
theorem zah (wr:List DoV) {r:qN} (hw:r.waits=false) (ho:r.over=do0):kO wr r=⟨r.todo.reverse,⟨r.buf,r.known.map (·.path),wr,do0⟩,r.seen⟩:=by
 simp_all[kO,do0]
theorem zdx {kn kn':List KnV} {p:Txt} {x:KnV} (h:kn <+: kn') (hf:jR kn p=some x):jR kn' p=some x:=by
 obtain⟨m,rfl⟩:=h
 simp_all[jR]
theorem zfk {kn:List KnV} {p:Txt} {x:KnV} (hf:jR kn p=some x):p∈kn.map (·.path):=by
 obtain⟨h1,h2⟩:=DJ hf
 grind
theorem zcu {kn:List KnV} {p:Txt} (hf:jR kn p=none):p∉kn.map (·.path):=by
 intro h
 obtain⟨x,h1,h2⟩:=List.mem_map.1 h
 have:=List.find?_eq_none.1 hf x h1
 simp_all
structure ztI (wr:List DoV) (r r':qN) (c:CfV):Prop where
 eq:kO wr r'=c
theorem YQ (wr:List DoV) (e:Int) {r:qN} (hw:r.waits=false) (ho:r.over=do0):kO wr (wY e r)=(kO wr r).map (ZG e):=by
 simp_all[kO,wY,CfV.map,ZG,do0]
theorem KN (wr:List DoV) (t:Txt) {r:qN} (hw:r.waits=false) (ho:r.over=do0):kO wr (yS t r)=(kO wr r).map (Z4 t):=by
 grind [yS,YQ,kO,CfV.map,Z4]
theorem zji (wr:List DoV) (k:CoV) (x:KnV) {r:qN} (hw:r.waits=false) (ho:r.over=do0):kO wr (coR k x r)=coS k x (kO wr r):=by
 cases hx:x.is with
 | false =>
  cases k with
  | tr=>simp[coR,coS,hx]
  | there t=>simp_all[coR,coS,YQ]
 | true =>
  cases k with
  | tr=>simp_all[coR,coS,KN]
  | there t=>cases t with
   | add=>simp_all[coR,coS,thR,thS,KN]
   | scan w=>simp_all[coR,coS,thR,thS,kO]
theorem zbh (env:List (Txt × Txt)) {kn:List KnV} (wr:List DoV) (p:Txt) (k:CoV) {r:qN} (hk:r.known <+: kn) (hw:r.waits=false) (ho:r.over=do0):ZF env kn (c9 p k (kO wr r)) (kO wr (QT p k r)):=by
 have e:=zah wr hw ho
 unfold QT
 cases hf:jR r.known p with
 | some x =>
  have h1:=zfk hf
  have h2:=zdx hk hf
  have ha:p∈(kO wr r).st.asked:=by simp_all
  simp only[c9,ha,if_true]
  refine .step (by rw[e];rfl) ?_
  simp only[KU,h2]
  rw[zji wr k x hw ho]
  exact .refl _
 | none =>
  have h1:=zcu hf
  have ha:¬p∈(kO wr r).st.asked:=by simp_all
  have hl:(kO wr r).st.asked.length=r.known.length:=by rw[e];simp
  simp only[c9,ha,if_false,hl]
  by_cases h5:500<=r.known.length
  ·simp only[h5,if_true]
   rw[YQ wr 6 hw ho]
   exact .refl _
  ·simp only[h5,if_false]
   have:kO wr { r with asks:=p,waits:=true,todo:=r.todo++[.ans k p] }={ kO wr r with td:=.ans k p::(kO wr r).td,st:={ (kO wr r).st with asked:=(kO wr r).st.asked++[p] } }:=by
    simp_all[kO]
   rw[this]
   exact .refl _
theorem zd5 (env:List (Txt × Txt)) {kn:List KnV} (wr:List DoV) (p w:Txt) {r:qN} (hk:r.known <+: kn) (hw:r.waits=false) (ho:r.over=do0):ZF env kn (zdi p w (kO wr r)) (kO wr (JL p w r)):=by
 have:=zbh env wr p (.there (.scan w)) (r:={ r with seen:=r.seen++[p] }) hk hw ho
 exact this
theorem zkj (env:List (Txt × Txt)) {kn:List KnV} (wr:List DoV) (s w:Txt) {r:qN} (hk:r.known <+: kn) (hw:r.waits=false) (ho:r.over=do0):ZF env kn (zb9 s w (kO wr r)) (kO wr (J1 s w r)):=by
 unfold zb9 J1
 generalize z6 s=ws
 rcases ws with _|⟨a,_|⟨p,_|⟨q,l⟩⟩⟩
 ·simp only;rw[KN wr _ hw ho];exact .refl _
 ·simp only;rw[KN wr _ hw ho];exact .refl _
 ·simp only
  by_cases h1:a≠w\/jQ p=false
  ·rw[if_pos h1,if_pos h1,KN wr _ hw ho];exact .refl _
  ·rw[if_neg h1,if_neg h1]
   have:(kO wr r).done=r.seen:=rfl
   rw[this]
   by_cases h2:p∈r.seen
   ·rw[if_pos h2,if_pos h2];exact .refl _
   simp_all[zd5]
 ·simp only;rw[KN wr _ hw ho];exact .refl _
theorem zlX (wr:List DoV) (b:Txt) {r:qN} (hw:r.waits=false) (ho:r.over=do0):kO wr { r with buf:=b }=(kO wr r).map fun s=>{ s with buf:=b }:=by
 rfl
theorem zaY (t:Txt) (s:StV) (h:t.length<=65536):Z4 t { s with buf:=[] }={ s with buf:=t }:=by
 grind [Z4]
theorem GG (wr:List DoV) (l:List Txt) {r:qN} (hw:r.waits=false) (ho:r.over=do0):kO wr (wB l r)=(kO wr r).map fun s=>Z4 (l.flatMap (·++[10])) { s with buf:=[] }:=by
 unfold wB
 rw[KN wr _ (r:={ r with buf:=[] }) hw ho,zlX wr [] hw ho]
 rfl
theorem zkX (wr:List DoV) (n a:Txt) {r:qN} (hw:r.waits=false) (ho:r.over=do0) (hb:r.buf.length<=65536):kO wr (wV n a r)=(kO wr r).map fun s=>Z4 (zbj n a s.buf) { s with buf:=[] }:=by
 have eb:(kO wr r).st.buf=r.buf:=rfl
 unfold wV zbj
 simp only[CfV.map,eb]
 split
 ·rw[GG wr _ hw ho];rfl
 split
 ·rw[GG wr _ hw ho];rfl
 split
 ·rw[zaY _ _ (by simp_all)]
  rfl
 split
 ·have h1:=ZW r.buf
  have h2:(Lib.itoa ((qZ r.buf).length:Int)).length<=21:=Lib.itoa_length_le _ (by omega) (by omega)
  rw[zaY _ _ (by grind)]
  rfl
 split
 ·rw[GG wr _ hw ho];rfl
 grind [zaY,kO]
theorem zmr (env:List (Txt × Txt)) {kn:List KnV} (wr:List DoV) (c:CmdV) {r:qN} (he:r.env=env) (hk:r.known <+: kn) (hw:r.waits=false) (ho:r.over=do0) (hb:r.buf.length<=65536):ZF env kn (PN env c (kO wr r)) (kO wr (doR c r)):=by
 have e:=zah wr hw ho
 have eb:(kO wr r).st.buf=r.buf:=rfl
 subst he
 unfold PN doR
 simp only
 split
 ·grind [zbh]
 split
 ·grind [zbh]
 split
 ·exact zd5 _ wr _ _ (r:={ r with seen:=[] }) hk hw ho
 split
 ·rw[KN wr _ hw ho];exact .refl _
 split
 ·cases hf:(r.env.find? fun x=>decide (x.1=c.words.getD 1 []))with
  | some x=>simp only;rw[KN wr _ hw ho];exact .refl _
  | none=>simp only;rw[YQ wr _ hw ho];exact .refl _
 split
 ·have:kO wr { r with over:=⟨2,c.words.getD 1 [],r.buf,0⟩,buf:=[] }=(kO wr r).map fun s=>{ s with wrote:=s.wrote++[⟨2,c.words.getD 1 [],s.buf,0⟩],buf:=[] }:=by
   simp_all[kO,CfV.map]
  rw[this];exact .refl _
 split
 ·rw[eb]
  split
  ·exact .refl _
  ·rw[YQ wr _ hw ho];exact .refl _
 split
 ·rw[YQ wr _ hw ho];exact .refl _
 ·rw[zkX wr _ _ hw ho hb];exact .refl _
theorem zlk (env:List (Txt × Txt)) {kn:List KnV} (wr:List DoV) {r:qN} (hi:W4 r) (he:r.env=env) (hk:r.known <+: kn) (hw:r.waits=false) (ho:r.over=do0):ZF env kn (kO wr r) (kO wr (Z1 r)):=by
 have e:=zah wr hw ho
 refine .step (by rw[e];rfl) ?_
 rcases List.eq_nil_or_concat r.todo with ht|⟨l,t,ht⟩
 ·rw[YP ht]
  have:KU env kn (kO wr r)=kO wr { r with over:=⟨3,[],[],0⟩ }:=by
   simp_all[KU,CfV.map,kO]
  rw[this];exact .refl _
 ·rw[List.concat_eq_append]at ht
  rw[YX ht]
  have htd:(kO wr r).td=t::l.reverse:=by simp_all
  have hr:({ kO wr r with td:=l.reverse }:CfV)=kO wr { r with todo:=l }:=rfl
  have hbuf:r.buf.length<=65536:=by
   rcases hi with⟨h,_⟩|⟨_,_,_,_,h,_⟩
   ·exact h.buf
   ·exact h.buf
  cases t with
  | cmd c =>
   simp_all[KU,tdR,zmr]
  | line s w =>
   simp_all[KU,tdR,zkj]
  | ans k p =>
   simp only[KU,htd,hr,tdR]
   have hf:∃x,jR r.known p=some x:=by
    rcases hi with⟨h,_⟩|⟨l',k',p',h1,h2,h3,h4,h5⟩
    ·obtain⟨a,b,h1,h2,h3⟩:=h.ord
     have hm:TdV.ans k p∈a++b:=by simp_all
     grind [isC,isL]
    simp_all
   obtain⟨x,hf⟩:=hf
   have h2:=zdx hk hf
   have h3:(jR { r with todo:=l }.known p).getD kn0=x:=by simp[hf]
   rw[h3]
   simp only[h2]
   rw[zji wr k x (r:={ r with todo:=l }) hw ho]
   exact .refl _
def U7:Txt->Txt
 | []=>[]
 | c::r=>if WH c=true then U7 r else c::r
def Z3:Txt->Txt
 | []=>[]
 | c::r=>if WH c=true then c::r else Z3 r
def PY (l:Txt):Txt:=(Z3 (U7 l)).drop 1
theorem CC:∀l:Txt,jZ [] l=jZ [] (U7 l)
 | []=>rfl
 | c::r=>by
  unfold U7
  split
  ·rename_i h
   rw[jZ,if_pos h,if_pos rfl]
   exact CC r
  ·rfl
theorem zba:∀(l cur:Txt),cur≠[]->jZ cur l=(cur++l.take (l.length-(Z3 l).length))::jZ [] (Z3 l)
 | [],cur,h=>by simp[jZ,Z3,h]
 | c::r,cur,h=>by
  unfold Z3
  split
  ·simp_all[jZ]
  ·rename_i hc
   rw[jZ,if_neg hc,zba r (cur++[c]) (by simp)]
   have:(Z3 r).length<=r.length:=by
    have:∀q:Txt,(Z3 q).length<=q.length:=by
     intro q
     induction q with
     | nil=>simp[Z3]
     | cons x q ih=>grind [Z3]
    exact this r
   rw[show (c::r).length-(Z3 r).length=r.length-(Z3 r).length+1 by simp;omega]
   simp
theorem zdC:∀q:Txt,(Z3 q).length<=q.length
 | []=>by simp[Z3]
 | x::q=>by
  have:=zdC q
  unfold Z3;split<;>simp;omega
theorem cL:∀q:Txt,q=q.take (q.length-(Z3 q).length)++Z3 q
 | []=>rfl
 | c::r=>by
  have hl:=zdC r
  have ih:=cL r
  unfold Z3
  split
  ·simp
  ·rw[show (c::r).length-(Z3 r).length=r.length-(Z3 r).length+1 by simp;omega,List.take_succ_cons,List.cons_append,<-ih]
theorem cR:∀l:Txt,∃b,l=b++U7 l/\∀c∈b,WH c=true
 | []=>⟨[],rfl,by simp⟩
 | c::r=>by
  unfold U7
  split
  ·rename_i h
   obtain⟨b,h1,h2⟩:=cR r
   grind
  simp
theorem ziE {l w:Txt} {ws:List Txt} (h:z6 l=w::ws):U7 l=w++Z3 (U7 l):=by
 rw[z6,CC]at h
 cases hd:U7 l with
 | nil=>simp_all[jZ]
 | cons c r =>
  have hc:WH c=false:=by
   have:∀q:Txt,∀ {c r},U7 q=c::r->WH c=false:=by
    intro q
    induction q with
    | nil=>intro c r e;cases e
    | cons x q ih =>
     grind [U7]
   grind
  rw[hd,jZ,if_neg (by simp[hc]),List.nil_append,zba r [c] (by simp)]at h
  obtain⟨h1,_⟩:=List.cons.inj h
  have hs:=cL r
  have hw:Z3 (c::r)=Z3 r:=by rw[Z3,if_neg (by simp[hc])]
  grind
theorem zh2 {l:Txt} {ws:List Txt} (h:z6 l=zH::ws):(l.drop ((Lib.index l zH).toNat+4)).drop 1=PY l:=by
 obtain⟨b,h1,h2⟩:=cR l
 have h3:=ziE h
 have hl:l=b++(zH++Z3 (U7 l)):=by grind
 have hocc:Lib.occAt l zH b.length=true:=by
  grind [Lib.occAt]
 have hno:∀j,j<b.length->Lib.occAt l zH j=false:=by
  intro j hj
  unfold Lib.occAt
  have hd:l.drop j=b[j]::l.drop (j+1):=by
   grind [List.drop_eq_getElem_cons]
  rw[hd]
  have hs:=h2 b[j] (List.getElem_mem hj)
  have hne:¬b[j]=116:=by
   intro e
   rw[e]at hs
   revert hs
   decide
  grind [zH]
 have hi:=Lib.index_first (by rw[hl];simp) hocc hno
 rw[hi]
 unfold PY
 congr 1
 grind [Int.toNat_natCast,zH]
end
section
variable [Sel]
theorem jY {α β:Type} (f:α->β) (l:List α) (k:Nat) (h:k<l.length):(l.map f)[k]?=some (f l[k]):=by rw[List.getElem?_map,List.getElem?_eq_getElem h];rfl
theorem x4 {α:Type} {a b:List α} (hl:a.length=b.length) (h:∀i (h1:i<a.length) (h2:i<b.length),a[i]=b[i]):a=b:=List.ext_getElem hl fun i h1 h2=>h i h1 h2
end
section
variable [Sel] [SelPow] [SelMax]
def yW (inw:Bool) (ps:List Txt) (l:Txt):List Txt:=match inw with
 | true=>ps.dropLast++jZ (ps.getLastD []) l
 | false=>ps++jZ [] l
theorem V4 {ps:List Txt} (h:ps≠[]):ps=ps.dropLast++[ps.getLastD []]:=by
 rcases List.eq_nil_or_concat ps with rfl|⟨q,x,rfl⟩
 ·simp_all
 ·simp
theorem zbF {ps:List Txt} {c:UInt8} {r:Txt} (hps:ps≠[]) (hl:ps.getLastD []≠[]) (hc:WH c=true):yW true ps (c::r)=yW false ps r:=by
 unfold yW
 simp only
 rw[jZ,if_pos hc,if_neg hl]
 grind [V4]
theorem CP {ps:List Txt} {c:UInt8} {r:Txt} (hc:WH c=true):yW false ps (c::r)=yW false ps r:=by
 simp_all[yW,jZ]
theorem zhx {ps:List Txt} {c:UInt8} {r:Txt} (hps:ps≠[]) (hc:WH c=false):yW true ps (c::r)=yW true (ps.set (ps.length-1) (ps.getLastD []++[c])) r:=by
 unfold yW
 simp only
 rw[jZ,if_neg (by simp[hc])]
 obtain⟨q,x,rfl⟩:∃q x,ps=q++[x]:=⟨_,_,V4 hps⟩
 simp
theorem zg9 {ps:List Txt} {c:UInt8} {r:Txt} (hc:WH c=false):yW false ps (c::r)=yW true (ps++[[c]]) r:=by
 simp_all[yW,jZ]
theorem zgr (inw:Bool) (ps:List Txt) (h:inw=true->ps≠[]/\ps.getLastD []≠[]):yW inw ps []=ps:=by
 cases inw with
 | false=>simp[yW,jZ]
 | true =>
  obtain⟨h1,h2⟩:=h rfl
  unfold yW
  simp only[jZ,if_neg h2]
  grind [V4]
def wK (w:Txt) (ws:List Txt):Bool :=
 if w=zH then true
 else if w=qW\/w=jD\/w=qV then decide (ws.length=1)&&jQ (ws.getD 0 [])
 else if w=zC then decide (ws.length=2)&&jQ (ws.getD 0 [])
 else if w=jL\/w=zS\/w=zL then decide (ws.length=1)
 else if w=zR\/w=zW\/w=qY\/w=z7\/w=zZ then decide (ws.length=0)
 else false
def xX:List Txt->Bool
 | []=>true
 | w::_=>decide (w.head?=some 35)
def ZO (l:List Txt):Bool:=xX l||(match l with|[]=>true|w::ws=>wK w ws)
theorem GD (s:Txt):(JF s=none)<->ZO (z6 s)=false:=by
 unfold JF ZO xX
 cases hw:z6 s with
 | nil=>simp
 | cons w ws =>
  simp only
  by_cases h1:w.head?=some 35
  ·simp[h1]
  ·rw[if_neg h1]
   simp only[h1,decide_false,Bool.false_or]
   unfold wK kG
   grind
def pY:List Txt->Option Nat
 | []=>none
 | s::r=>if ZO (z6 s)=true then(pY r).map (·+1) else some 1
theorem zdM:∀(l:List Txt) (i:Nat),(∀n,pY l=some n->QE i l=.error (i+n))/\(pY l=none->∃cs,QE i l=.ok cs)
 | [],i=>⟨fun n h=>(by cases h),fun _=>⟨[],rfl⟩⟩
 | s::r,i=>by
  obtain⟨ih1,ih2⟩:=zdM r (i+1)
  unfold pY
  cases hg:ZO (z6 s)with
  | false =>
   have hn:=(GD s).2 hg
   simp_all[QE]
  | true =>
   have hn:JF s≠none:=fun e=>by simp_all[GD]
   simp only[if_true]
   obtain⟨x,hx⟩:=Option.ne_none_iff_exists'.1 hn
   refine⟨fun n h=>?_,fun h=>?_⟩
   ·obtain⟨m,hm,rfl⟩:=Option.map_eq_some_iff.1 h
    grind [QE]
   ·have h':pY r=none:=by
     simp_all
    obtain⟨cs,hcs⟩:=ih2 h'
    rw[QE,hx]
    grind
def uO (t:Txt):Int × Int:=if 65536<t.length\/400<(qZ t).length then(6,0) else match pY (qZ t)with
 | some n=>(3,n)
 | none=>(0,0)
theorem cG (t:Txt):(∃cs,jB t=.ok cs/\uO t=(0,0))\/∃e n,jB t=.error (e,n)/\uO t=(e,(n:Int))/\e≠0:=by
 unfold jB uO
 by_cases h:65536<t.length\/400<(qZ t).length
 ·rw[if_pos h,if_pos h];grind
 rw[if_neg h,if_neg h]
 obtain⟨h1,h2⟩:=zdM (qZ t) 0
 cases hb:pY (qZ t)with
 | none =>
  obtain⟨cs,hcs⟩:=h2 hb
  simp_all
 | some n =>
  grind
def QO (kn:List KnV) (p:Txt) (s:StV):StV × KnV :=
 if p∉s.asked/\s.asked.length=500 then(ZG 6 s,kn0)
 else
  let s1:StV:=if p∈s.asked then s else { s with asked:=s.asked++[p] }
  match jR kn p with
  | some k=>(s1,k)
  | none=>({ s1 with stop:=⟨1,p,[],0⟩ },kn0)
def K7 (rec:Txt->StV->List Txt->StV × List Txt) (w:Txt):List Txt->StV->List Txt->StV × List Txt
 | [],s,d=>(s,d)
 | x::r,s,d=>if s.stop.kind≠0 then(s,d) else match z6 x with
  | [a,q]=>if a≠w\/jQ q=false then K7 rec w r (Z4 (x++[10]) s) d
   else if q∈d then K7 rec w r s d
   else K7 rec w r (rec q s d).1 (rec q s d).2
  | _=>K7 rec w r (Z4 (x++[10]) s) d
def zfO (kn:List KnV) (w:Txt):Nat->Txt->StV->List Txt->StV × List Txt
 | 0,_,s,d=>(s,d)
 | n+1,p,s,d =>
  let s1:=(QO kn p s).1
  let k:=(QO kn p s).2
  if s1.stop.kind≠0 then(s1,d++[p])
  else if k.is=false then(ZG 10 s1,d++[p])
  else K7 (zfO kn w n) w (qZ k.data) s1 (d++[p])
structure zcB (s:StV) (d:List Txt):Prop where
 stop:s.stop=do0
 nod:d.Nodup
 sub:∀p∈d,p∈s.asked
 len:s.asked.length<=500
theorem zcB.dlen {s:StV} {d:List Txt} (h:zcB s d):d.length<=500 :=
 Nat.le_trans (List.Nodup.length_le_of_subset h.nod h.sub) h.len
theorem znu (env:List (Txt × Txt)) (kn:List KnV) (p:Txt) (co:CoV) (c:CfV) (h0:c.st.stop.kind=0) (hl:c.st.asked.length<=500) :
  (∃k,QO kn p c.st=(if p∈c.st.asked then c.st else { c.st with asked:=c.st.asked++[p] },k)/\jR kn p=some k/\(QO kn p c.st).1.stop=c.st.stop/\p∈(QO kn p c.st).1.asked/\(∀q∈c.st.asked,q∈(QO kn p c.st).1.asked)/\(QO kn p c.st).1.asked.length<=500/\
   ZF env kn (c9 p co c) (coS co k { c with st:=(QO kn p c.st).1 }))\/
  ((QO kn p c.st).1.stop.kind≠0/\∃td',ZF env kn (c9 p co c) ⟨td',(QO kn p c.st).1,c.done⟩):=by
 unfold QO c9
 by_cases hin:p∈c.st.asked
 ·simp only[hin,if_true,not_true,false_and,if_false]
  cases hf:jR kn p with
  | some k =>
   left
   refine⟨k,rfl,rfl,rfl,hin,fun q h=>h,hl,?_⟩
   refine .step h0 ?_
   simp only[KU,hf]
   exact .refl _
  | none =>
   right
   refine⟨by simp,c.td,?_⟩
   refine .step h0 ?_
   simp only[KU,hf]
   exact .refl _
 ·simp only[hin,if_false,not_false_iff,true_and]
  by_cases h5:c.st.asked.length=500
  ·simp only[h5,if_true,Nat.le_refl]
   exact .inr ⟨by simp[ZG],c.td,.refl _⟩
  ·have h5':¬500<=c.st.asked.length:=by omega
   simp only[h5,h5',if_false]
   cases hf:jR kn p with
   | some k =>
    left
    refine⟨k,rfl,rfl,rfl,by simp,fun q h=>by simp[h],by simp;omega,?_⟩
    refine .step h0 ?_
    simp only[KU,hf]
    exact .refl _
   | none =>
    right
    refine⟨by simp,c.td,?_⟩
    refine .step h0 ?_
    simp only[KU,hf]
    exact .refl _
theorem zmk {t:Txt} {s:StV} {d:List Txt} (h:zcB s d):(Z4 t s).asked=s.asked/\((Z4 t s).stop.kind=0->zcB (Z4 t s) d):=by
 unfold Z4
 split
 ·simp[ZG]
 ·exact⟨rfl,fun _=>⟨h.stop,h.nod,h.sub,h.len⟩⟩
structure zpB (env:List (Txt × Txt)) (kn:List KnV) (c:CfV) (td:List TdV) (d:List Txt) (r:StV × List Txt):Prop where
 pre:d <+: r.2
 go:r.1.stop.kind=0->zcB r.1 r.2/\ZF env kn c ⟨td,r.1,r.2⟩
 stop:r.1.stop.kind≠0->∃td' d',ZF env kn c ⟨td',r.1,d'⟩
theorem V5 {env:List (Txt × Txt)} {kn:List KnV} {w:Txt} {n:Nat} (rec:Txt->StV->List Txt->StV × List Txt)
  (hrec:∀(p:Txt) (s:StV) (d:List Txt) (td:List TdV),zcB s d->p∉d->501-d.length<=n->zpB env kn (zdi p w ⟨td,s,d⟩) td (d++[p]) (rec p s d)) :
  ∀(l:List Txt) (s:StV) (d:List Txt) (td:List TdV),zcB s d->501-d.length<=n->zpB env kn ⟨(l.map fun x=>.line x w)++td,s,d⟩ td d (K7 rec w l s d)
 | [],s,d,td,hi,hn=>⟨List.prefix_refl _,fun _=>⟨hi,by simpa[K7]using .refl _⟩,fun h=>by simp[K7,hi.stop,do0]at h⟩
 | x::r,s,d,td,hi,hn=>by
  have hk0:s.stop.kind=0:=by rw[hi.stop];rfl
  have h0:¬s.stop.kind≠0:=by simp[hk0]
  have hstep:∀c',zb9 x w ⟨(r.map fun x=>.line x w)++td,s,d⟩=c'->ZF env kn ⟨((x::r).map fun x=>.line x w)++td,s,d⟩ c':=fun c' e=>by
   subst e
   exact .step hk0 (.refl _)
    -- a line is added
  have hadd:zb9 x w ⟨(r.map fun x=>.line x w)++td,s,d⟩=⟨(r.map fun x=>.line x w)++td,Z4 (x++[10]) s,d⟩->zpB env kn ⟨((x::r).map fun x=>.line x w)++td,s,d⟩ td d (K7 rec w r (Z4 (x++[10]) s) d):=by
   intro e
   have hr:=hstep _ e
   by_cases hk:(Z4 (x++[10]) s).stop.kind=0
   ·have ih:=V5 rec hrec r _ d td ((zmk hi).2 hk) hn
    exact⟨ih.pre,fun h=>⟨(ih.go h).1,hr.trans (ih.go h).2⟩,fun h=>by obtain⟨td',d',h1⟩:=ih.stop h;exact⟨td',d',hr.trans h1⟩⟩
   ·have hv:K7 rec w r (Z4 (x++[10]) s) d=(Z4 (x++[10]) s,d):=by
     cases r with
     | nil=>rfl
     | cons y r=>rw[K7,if_pos hk]
    rw[hv]
    exact⟨List.prefix_refl _,fun h=>absurd h hk,fun _=>⟨_,_,hr⟩⟩
  rw[K7,if_neg h0]
  unfold zb9 at hadd hstep
  generalize z6 x=ws at hadd hstep |-
  rcases ws with _|⟨a,_|⟨q,_|⟨z,l⟩⟩⟩
  ·exact hadd rfl
  ·exact hadd rfl
  ·simp only at hadd hstep |-
   by_cases h1:a≠w\/jQ q=false
   ·rw[if_pos h1];exact hadd (if_pos h1)
   rw[if_neg h1]at hstep |-
   by_cases h2:q∈d
   ·rw[if_pos h2]at hstep |-
    have hr:=hstep _ rfl
    have ih:=V5 rec hrec r s d td hi hn
    exact⟨ih.pre,fun h=>⟨(ih.go h).1,hr.trans (ih.go h).2⟩,fun h=>by obtain⟨td',d',h1⟩:=ih.stop h;exact⟨td',d',hr.trans h1⟩⟩
   ·rw[if_neg h2]at hstep |-
    have hr:=hstep _ rfl
    have hs:=hrec q s d ((r.map fun x=>.line x w)++td) hi h2 hn
    have hpl:=hs.pre.length_le
    simp only[List.length_append,List.length_cons,List.length_nil]at hpl
    have hpd:d <+: (rec q s d).2:=(List.prefix_append d [q]).trans hs.pre
    by_cases hk:(rec q s d).1.stop.kind=0
    ·obtain⟨g1,g2⟩:=hs.go hk
     have ih:=V5 rec hrec r (rec q s d).1 (rec q s d).2 td g1 (by omega)
     exact⟨hpd.trans ih.pre,fun h=>⟨(ih.go h).1,hr.trans (g2.trans (ih.go h).2)⟩,fun h=>by obtain⟨td',d',h1⟩:=ih.stop h;exact⟨td',d',hr.trans (g2.trans h1)⟩⟩
    ·obtain⟨td',d',g1⟩:=hs.stop hk
     have hv:K7 rec w r (rec q s d).1 (rec q s d).2=((rec q s d).1,(rec q s d).2):=by
      cases r with
      | nil=>rfl
      | cons y r=>rw[K7,if_pos hk]
     rw[hv]
     exact⟨hpd,fun h=>absurd h hk,fun _=>⟨td',d',hr.trans g1⟩⟩
  ·exact hadd rfl
theorem zgJ {env:List (Txt × Txt)} {kn:List KnV} {w:Txt}:∀(n:Nat) (p:Txt) (s:StV) (d:List Txt) (td:List TdV),zcB s d->p∉d->501-d.length<=n->zpB env kn (zdi p w ⟨td,s,d⟩) td (d++[p]) (zfO kn w n p s d)
 | 0,p,s,d,td,hi,hp,hn=>by have:=hi.dlen;omega
 | n+1,p,s,d,td,hi,hp,hn=>by
  have hk0:s.stop.kind=0:=by rw[hi.stop];rfl
  have ha:=znu env kn p (.there (.scan w)) ⟨td,s,d++[p]⟩ hk0 hi.len
  have hsc:zdi p w ⟨td,s,d⟩=c9 p (.there (.scan w)) ⟨td,s,d++[p]⟩:=rfl
  rw[hsc]
  rw[zfO]
  rcases ha with⟨k,h1,h2,h3,h4,h5,h6,h7⟩|⟨h1,td',h2⟩
  ·simp only at h1 h3 h4 h5 h6 h7
   have hk:(QO kn p s).2=k:=by rw[h1]
   have hst:¬(QO kn p s).1.stop.kind≠0:=by simp_all
   rw[if_neg hst,hk]
   have hi2:zcB (QO kn p s).1 (d++[p]):=by
    refine⟨h3.trans hi.stop,?_,?_,h6⟩
    ·refine List.nodup_append.2 ⟨hi.nod,by simp,fun a ha c hc=>?_⟩
     grind
    ·intro q hq
     rcases List.mem_append.1 hq with hq|hq
     ·exact h5 q (hi.sub q hq)
     simp_all
   cases his:k.is with
   | false =>
    rw[if_pos rfl]
    refine⟨List.prefix_refl _,fun e=>by grind [ZG],fun _=>⟨td,d++[p],?_⟩⟩
    simp_all[coS,CfV.map]
   | true =>
    rw[if_neg (by decide)]
    have:coS (.there (.scan w)) k ⟨td,(QO kn p s).1,d++[p]⟩=⟨((qZ k.data).map fun x=>.line x w)++td,(QO kn p s).1,d++[p]⟩:=by
     grind [coS,thS]
    rw[this]at h7
    have ih:=V5 (env:=env) (kn:=kn) (w:=w) (n:=n) (zfO kn w n) (fun p s d td a b c=>zgJ n p s d td a b c) (qZ k.data) (QO kn p s).1 (d++[p]) td hi2 (by grind)
    exact⟨ih.pre,fun h=>⟨(ih.go h).1,h7.trans (ih.go h).2⟩,fun h=>by obtain⟨td',d',h1⟩:=ih.stop h;exact⟨td',d',h7.trans h1⟩⟩
  ·simp only at h1 h2
   rw[if_pos h1]
   exact⟨List.prefix_refl _,fun e=>absurd e h1,fun _=>⟨td',d++[p],h2⟩⟩
def ccR (r:qN):Nat:=r.todo.countP isC
structure Ef (b:Bool) (r r':qN):Prop where
 en:r'.env=r.env
 cc:ccR r'=ccR r
 ov:r'.over=r.over\/(r'.over.kind=4/\r'.over.why≠0)\/(b=true/\r'.over.kind=2/\r'.over.why=0)
 wo:r.waits=false->r'.waits=true->r'.over=r.over
theorem Ef.refl {b:Bool} (r:qN):Ef b r r:=⟨rfl,rfl,.inl rfl,fun _ _=>rfl⟩
theorem Ef.same {b:Bool} {r r':qN} (h1:r'.env=r.env) (h2:r'.todo=r.todo) (h3:r'.over=r.over):Ef b r r':=⟨h1,by grind [ccR],.inl h3,fun _ _=>h3⟩
theorem Ef.fail {b:Bool} (e:Int) (r:qN) (he:e≠0:=by decide):Ef b r (wY e r):=⟨rfl,rfl,.inr (.inl ⟨rfl,he⟩),fun h1 h2=>by simp_all[wY]⟩
theorem Ef.add {b:Bool} (t:Txt) (r:qN):Ef b r (yS t r):=by
 unfold yS
 split
 ·simp[fail]
 simp[same]
theorem Ef.lines {b:Bool} (t:List Txt) (r:qN):Ef b r (wB t r):=by
 have h:=Ef.add (b:=b) (t.flatMap (·++[10])) { r with buf:=[] }
 exact⟨h.en,h.cc,h.ov,h.wo⟩
theorem zkC (w:Txt) (l:List Txt):(l.map fun s=>TdV.line s w).countP isC=0:=by
 simp[isC]
theorem Ef.co {b:Bool} (k:CoV) (x:KnV) (r:qN):Ef b r (coR k x r):=by
 cases hx:x.is with
 | false =>
  cases k with
  | tr=>simp_all[coR,refl]
  | there t=>grind [coR,fail]
 | true =>
  cases k with
  | tr=>grind [coR,add]
  | there t=>cases t with
   | add=>grind [coR,add,thR]
   | scan w =>
    rw[show coR (.there (.scan w)) x r={ r with todo:=r.todo++(qZ x.data).reverse.map fun s=>.line s w } by simp[coR,hx,thR]]
    exact⟨rfl,by have:=zkC w (qZ x.data).reverse;simp_all[ccR],.inl rfl,fun _ _=>rfl⟩
theorem Ef.ask {b:Bool} (p:Txt) (k:CoV) (r:qN):Ef b r (QT p k r):=by
 unfold QT
 split
 ·simp[co]
 ·split
  ·simp[fail]
  ·exact⟨rfl,by simp[ccR,isC],.inl rfl,fun _ _=>rfl⟩
theorem Ef.scan {b:Bool} (p w:Txt) (r:qN):Ef b r (JL p w r):=by
 have h:=Ef.ask (b:=b) p (.there (.scan w)) { r with seen:=r.seen++[p] }
 exact⟨h.en,h.cc,h.ov,h.wo⟩
theorem Ef.line {b:Bool} (s w:Txt) (r:qN):Ef b r (J1 s w r):=by
 grind [J1,add,refl,scan]
theorem Ef.turn {b:Bool} (n a:Txt) (r:qN):Ef b r (wV n a r):=by
 unfold wV
 split
 ·simp[lines]
 split
 ·simp[lines]
 split
 ·simp[same]
 split
 ·simp[same]
 grind [lines,refl]
theorem Ef.cmd (c:CmdV) (r:qN):Ef true r (doR c r):=by
 unfold doR
 simp only
 split
 ·simp[ask]
 split
 ·simp[ask]
 split
 ·have h:=Ef.scan (b:=true) (c.words.getD 1 []) (c.words.getD 2 []) { r with seen:=[] }
  exact⟨h.en,h.cc,h.ov,h.wo⟩
 split
 ·simp[add]
 split
 ·grind [add,fail]
 split
 ·exact⟨rfl,rfl,.inr (.inr ⟨rfl,rfl,rfl⟩),fun h1 h2=>by simp_all⟩
 grind [refl,fail,turn]
structure zjv (r r':qN):Prop where
 en:r'.env=r.env
 cc:ccR r'<=ccR r
 ov:r'.over=r.over\/r'.over=⟨3,[],[],0⟩\/(r'.over.kind=4/\r'.over.why≠0)\/(r'.over.kind=2/\r'.over.why=0/\ccR r'<ccR r)
 wo:r.waits=false->r'.waits=true->r'.over=r.over
theorem ziX (r:qN):zjv r (Z1 r):=by
 rcases List.eq_nil_or_concat r.todo with ht|⟨l,t,ht⟩
 ·rw[YP ht]
  exact⟨rfl,Nat.le_refl _,.inr (.inl rfl),fun h1 h2=>by simp_all⟩
 ·rw[List.concat_eq_append]at ht
  rw[YX ht]
  have hc:ccR r=ccR { r with todo:=l }+if isC t=true then 1 else 0:=by
   simp_all[ccR]
  have go:∀ {r':qN},Ef false { r with todo:=l } r'->zjv r r':=fun h=>by
   refine⟨h.en,by rw[h.cc];omega,?_,h.wo⟩
   rcases h.ov with h|h|⟨h,_⟩
   ·exact .inl h
   ·omega
   ·cases h
  cases t with
  | cmd c =>
   have h:=Ef.cmd c { r with todo:=l }
   have hc':ccR r=ccR { r with todo:=l }+1:=hc
   refine⟨h.en,?_,?_,h.wo⟩
   ·have:=h.cc;simp_all[tdR]
   ·rcases h.ov with h1|h1|⟨_,h1,h9⟩
    ·exact .inl h1
    ·exact .inr (.inr (.inl h1))
    ·refine .inr (.inr (.inr ⟨h1,h9,?_⟩))
     have:=h.cc;simp_all[tdR]
  | line s w=>exact go (.line _ _ _)
  | ans k p=>exact go (.co _ _ _)
def OV (r:qN):Prop:=(r.over=do0\/(r.over.kind=2/\r.over.why=0)\/r.over=⟨3,[],[],0⟩\/(r.over.kind=4/\r.over.why≠0))/\(r.waits=true->r.over=do0)
theorem OV.zero {r:qN} (h:OV r) (h0:r.over.kind=0):r.over=do0:=by
 rcases h.1 with h|⟨h,_⟩|h|⟨h,_⟩
 ·exact h
 ·omega
 ·simp_all
 omega
theorem zjv.ovk {r r':qN} (h:zjv r r') (h0:OV r) (hk:r.over.kind=0) (hw:r.waits=false):OV r':=by
 have hd:=h0.zero hk
 refine⟨?_,fun e=>(h.wo hw e).trans hd⟩
 rcases h.ov with h1|h1|h1|⟨h1,h9,_⟩
 ·simp_all
 ·simp_all
 ·omega
 omega
theorem zd6 {r:qN} (h:¬w8 r=true):r.over.kind=0/\r.waits=false:=by
 simp_all[w8]
theorem zcV (env:List (Txt × Txt)) {kn:List KnV} (wr:List DoV):∀(n:Nat) {r r':qN},runN n r=some r'->W4 r->OV r->r.env=env->r.known <+: kn->
  ZF env kn (kO wr r) (kO wr r')/\OV r'/\r'.env=env/\ccR r'<=ccR r/\(r.over.kind=0->r'.over.kind=2->ccR r'<ccR r)
 | 0,r,r',h,_,_,_,_=>by cases h
 | n+1,r,r',h,hi,ho,he,hk=>by
  rw[runN]at h
  by_cases hs:w8 r=true
  ·rw[if_pos hs]at h
   cases h
   exact⟨.refl _,ho,he,Nat.le_refl _,fun h1 h2=>by omega⟩
  ·rw[if_neg hs]at h
   obtain⟨h0,hw⟩:=zd6 hs
   have hse:=ziX r
   have hst:=DY hi (by simp_all)
   obtain⟨g1,g2,g3,g4,g5⟩:=zcV env wr n h hst.1 (hse.ovk ho h0 hw) (hse.en.trans he) (by rw[hst.2.2];exact hk)
   refine⟨(zlk env wr hi he hk hw (ho.zero h0)).trans g1,g2,g3,Nat.le_trans g4 hse.cc,fun _ h2=>?_⟩
   have stuck:(Z1 r).over.kind≠0->r'=Z1 r:=fun h1=>by
    have hst2:w8 (Z1 r)=true:=by simp[w8,h1]
    cases n with
    | zero=>cases h
    | succ n=>simp_all[runN]
   rcases hse.ov with h1|h1|⟨h1,_⟩|⟨h1,_,h3⟩
   ·exact Nat.lt_of_lt_of_le (g5 (by simp_all) h2) hse.cc
   ·simp_all
   ·simp_all
   ·omega
theorem cV {r:qN} (h:w8 r=true):kZ r=r:=by
 simp_all[kZ,runN]
structure AtR (env:List (Txt × Txt)) (c0:CfV) (kn:List KnV) (wr:List DoV) (r:qN):Prop where
 inv:W4 r
 ov:OV r
 en:r.env=env
 kno:r.known=kn
 runs:∀kn',kn <+: kn'->ZF env kn' c0 (kO wr r)
theorem AtR.settle {env:List (Txt × Txt)} {c0:CfV} {kn:List KnV} {wr:List DoV} {r:qN} (h:AtR env c0 kn wr r):AtR env c0 kn wr (kZ r)/\ccR (kZ r)<=ccR r/\(r.over.kind=0->(kZ r).over.kind=2->ccR (kZ r)<ccR r):=by
 obtain⟨h1,h2,h3,h4⟩:=yZ h.inv
 have hr:=fun kn' (hk:kn <+: kn')=>zcV env wr _ h1 h.inv h.ov h.en (kn:=kn') (by rw[h.kno];exact hk)
 obtain⟨_,g2,g3,g4,g5⟩:=hr kn (List.prefix_refl _)
 exact⟨⟨h2,g2,g3,h4.trans h.kno,fun kn' hk=>(h.runs kn' hk).trans (hr kn' hk).1⟩,g4,g5⟩
structure KY (env:List (Txt × Txt)) (c0:CfV) (kn:List KnV) (wr:List DoV) (r:qN) (d:DoV):Prop where
 at_:AtR env c0 kn wr r
 stops:w8 r=true
 no2:r.over.kind≠2
 waits:d.kind=1<->r.waits=true
 asks:r.waits=true->d=⟨1,r.asks,[],0⟩
 over:r.waits=false->d=r.over
 ref:∃c,ZF env kn c0 c/\c.st.stop=d/\c.st.stop.kind≠0/\c.st.wrote=wr
theorem AtR.next {env:List (Txt × Txt)} {c0:CfV} {kn:List KnV} {wr:List DoV} {r:qN} (h:AtR env c0 kn wr r) (h0:r.over.kind≠2) :
  ((wI r).1.kind=2/\AtR env c0 kn (wr++[(wI r).1]) (wI r).2/\ccR (wI r).2<ccR r/\(wI r).2.over.kind=0)\/KY env c0 kn wr (wI r).2 (wI r).1:=by
 obtain⟨hs,hc,hc2⟩:=h.settle
 have hst:=(yZ h.inv).2.2.1
 obtain⟨s,hse⟩:∃s,s=kZ r:=⟨_,rfl⟩
 have hn:wI r=(if s.waits=true then(⟨1,s.asks,[],0⟩,s) else(s.over,if s.over.kind=2 then { s with over:=do0 } else s)):=by rw[hse];rfl
 have hr0:s.over.kind=2->r.over.kind=0:=fun h2=>by
  apply Classical.byContradiction
  grind [w8,cV]
 rw[<-hse]at hs hc hc2 hst
 rw[hn]
 by_cases hw:s.waits=true
 ·rw[if_pos hw]
  have ho:=hs.ov.2 hw
  rcases hs.inv with⟨_,h2⟩|⟨l,k,p,e,h2,h3,h4,_⟩
  ·simp_all
  ·obtain⟨g1,g2,g3⟩:=h4 hw
   refine .inr ⟨hs,hst,by rw[ho];decide,by simp[hw],fun _=>rfl,fun e=>(by simp_all),?_⟩
   have htd:(kO wr s).td=.ans k p::l.reverse:=by simp[kO,e]
   have hso:(kO wr s).st.stop=do0:=by simp[kO,ho,do0]
   refine⟨_,(hs.runs kn (List.prefix_refl _)).trans (.step (by rw[hso];rfl) (.refl _)),?_⟩
   have hf:jR kn p=none:=by rw[<-hs.kno];exact g2
   simp_all[KU,CfV.map,kO,do0]
 ·rw[if_neg hw]
  have hw':s.waits=false:=by simp_all
  have hk0:s.over.kind≠0:=by
   simp_all[w8]
  by_cases h2:s.over.kind=2
  ·rw[if_pos h2]
   refine .inl ⟨h2,⟨?_,⟨.inl rfl,fun _=>rfl⟩,hs.en,hs.kno,fun kn' hk=>?_⟩,hc2 (hr0 h2) h2,rfl⟩
   ·exact hs.inv.of_same rfl rfl rfl rfl rfl rfl
   ·have:=hs.runs kn' hk
    simp_all[kO,do0]
  ·rw[if_neg h2]
   refine .inr ⟨hs,hst,h2,?_,fun e=>absurd e hw,fun _=>rfl,kO wr s,hs.runs kn (List.prefix_refl _),by simp[kO,h2],by simp_all[kO],by simp[kO,h2]⟩
   constructor
   ·intro e1
    rcases hs.ov.1 with h|⟨h,_⟩|h|⟨h,_⟩
    ·rw[h]at e1;cases e1
    ·omega
    ·simp_all
    simp_all
   simp_all
theorem KY.give {env:List (Txt × Txt)} {c0:CfV} {kn:List KnV} {wr:List DoV} {r:qN} {d:DoV} (h:KY env c0 kn wr r d) (k:KnV) (hw:r.waits=true) (hp:k.path=r.asks) (hd:k.is=true->k.data.length<=65536) :
  (J7 k r).1=0/\AtR env c0 (kn++[k]) wr (J7 k r).2/\(J7 k r).2.over.kind=0/\ccR (J7 k r).2=ccR r:=by
 have hi:=zdl h.at_.inv k (fun h=>by grind)
 have ho:=h.at_.ov.2 hw
 have hg:J7 k r=(0,{ r with known:=r.known++[k],asks:=[],waits:=false }):=by
  unfold J7
  simp only[cV h.stops]
  simp_all
 rw[hg]at hi |-
 refine⟨rfl,⟨hi,⟨.inl ho,fun e=>by cases e⟩,h.at_.en,by simp only[h.at_.kno],fun kn' hk=>?_⟩,by simp only[ho];rfl,rfl⟩
 have:=h.at_.runs kn' ((List.prefix_append kn [k]).trans hk)
 simp_all[kO]
end
section
variable [Sel]
def zes:List UInt8:=List.replicate 32 0
structure jM where
 path:List UInt8
 data:List UInt8
deriving DecidableEq
structure yH where
 kind:Int
 why:Int
 outs:List jM
 reads:List xE
def qS (f:jM):AV:=.agg [.s f.path,.s f.data]
def qH (l:List jM):AV:=.sl .no (l.map qS)
def qU (o:yH):AV:=.agg [.i .i64 o.kind,.i .i64 o.why,qH o.outs,zO o.reads]
@[simp] theorem zbX (f:jM):(qS f).er=qS f:=by simp[qS,AV.er,AV.ers]
@[simp] theorem jJ (l:List jM):(qH l).er=qH l:=by simp[qH,AV.er,AV.ers_eq,Function.comp_def]
@[simp] theorem wM (o:yH):(qU o).er=qU o:=by simp[qU,AV.er,AV.ers]
@[simp] theorem zqQ (x:jM):(qS x).erk=qS x:=kX _ (zbX x)
@[simp] theorem zpQ (x:List jM):(qH x).erk=qH x:=kX _ (jJ x)
@[simp] theorem zhl (x:yH):(qU x).erk=qU x:=kX _ (wM x)
@[simp] theorem zfL:qR Tryz.prog 80=true:=by kernel_rfl
@[simp] theorem zqC:qX Tryz.prog (.func 80)=false:=W5 zfL
def wi (x:UInt32):Int:=x.toNat
abbrev wW (w:UInt32):AV:=.i .u32 (wi w)
theorem zc8 {n:Nat} (h:n<4294967296):IntKind.u32.wrap (n:Int)=n:=by
 simp[IntKind.wrap,IntKind.signed,IntKind.bits];omega
theorem zar (x:UInt32):BitVec.ofInt IntKind.u32.bits (wi x)=x.toBitVec:=by
 apply BitVec.eq_of_toNat_eq
 show (BitVec.ofInt 32 (x.toNat:Int)).toNat=_
 simp
 rfl
theorem GU (x y:UInt32):IntKind.u32.wrap (wi x+wi y)=wi (x+y):=by
 have:=x.toNat_lt;have:=y.toNat_lt
 simp[wi,IntKind.wrap,IntKind.signed,IntKind.bits,UInt32.toNat_add]
theorem wor (x y:UInt32):IntKind.u32.wrap ((BitVec.ofInt IntKind.u32.bits (wi x) ||| BitVec.ofInt IntKind.u32.bits (wi y)).toNat:Int)=wi (x ||| y):=by
 rw[zar,zar,zc8 (BitVec.isLt _)];rfl
theorem PD (x y:UInt32):IntKind.u32.wrap ((BitVec.ofInt IntKind.u32.bits (wi x) ^^^ BitVec.ofInt IntKind.u32.bits (wi y)).toNat:Int)=wi (x ^^^ y):=by
 rw[zar,zar,zc8 (BitVec.isLt _)];rfl
theorem CR (x y:UInt32):IntKind.u32.wrap ((BitVec.ofInt IntKind.u32.bits (wi x) &&& BitVec.ofInt IntKind.u32.bits (wi y)).toNat:Int)=wi (x &&& y):=by
 rw[zar,zar,zc8 (BitVec.isLt _)];rfl
theorem CM (x:UInt32):IntKind.u32.wrap ((BitVec.ofInt IntKind.u32.bits (if IntKind.u32.signed then -1 else IntKind.u32.max) ^^^ BitVec.ofInt IntKind.u32.bits (wi x)).toNat:Int)=wi (~~~ x):=by
 rw[zar,zc8 (BitVec.isLt _)]
 unfold wi
 show ((BitVec.ofInt 32 4294967295 ^^^ x.toBitVec).toNat:Int)=((~~~ x.toBitVec).toNat:Int)
 rw[show BitVec.ofInt 32 4294967295=BitVec.allOnes 32 from by decide,BitVec.allOnes_xor]
theorem zrZ (x:UInt32) {n:Nat} (h:n<32):(wi x).fdiv (2 ^ n)=wi (x >>> UInt32.ofNat n):=by
 have e:(x >>> UInt32.ofNat n).toNat=x.toNat / 2 ^ n:=by
  rw[UInt32.toNat_shiftRight,UInt32.toNat_ofNat_of_lt' (by rw[UInt32.size];omega),Nat.mod_eq_of_lt (by omega),Nat.shiftRight_eq_div_pow]
 unfold wi
 rw[e,Int.fdiv_eq_ediv_of_nonneg _ (Int.le_of_lt (Int.pow_pos (by omega)))]
 norm_cast
theorem zsn (x:UInt32) {n:Nat} (h:n<32):IntKind.u32.wrap (wi x*2 ^ n)=wi (x <<< UInt32.ofNat n):=by
 have e:(x <<< UInt32.ofNat n).toNat=(x.toNat*2 ^ n) % 4294967296:=by
  rw[UInt32.toNat_shiftLeft,UInt32.toNat_ofNat_of_lt' (by rw[UInt32.size];omega),Nat.mod_eq_of_lt (by omega:n<32),Nat.shiftLeft_eq]
 unfold wi
 rw[e]
 simp[IntKind.wrap,IntKind.signed,IntKind.bits]
theorem znI {n:Nat} (h:n<32):min n IntKind.u32.bits=n:=by simp[IntKind.bits];omega
theorem VZ (x:UInt32) {n:Nat} (h:n<32):(wi x).fdiv (2 ^ (min n IntKind.u32.bits))=wi (x >>> UInt32.ofNat n):=by rw[znI h,zrZ x h]
theorem zsV (x:UInt32) {n:Nat} (h:n<32):IntKind.u32.wrap (wi x*2 ^ (min n IntKind.u32.bits))=wi (x <<< UInt32.ofNat n):=by rw[znI h,zsn x h]
theorem zsx (b:UInt8):IntKind.u32.wrap (b.toNat:Int)=wi b.toUInt32:=by
 have:=b.toNat_lt
 rw[zc8 (by omega)];simp[wi]
theorem ztm (x:UInt32):IntKind.u8.wrap (wi x)=(x.toUInt8.toNat:Int):=by
 simp[wi,IntKind.wrap,IntKind.signed,IntKind.bits]
def vM (x:UInt32) (n:Nat):UInt32:=(x >>> UInt32.ofNat n) ||| (x <<< UInt32.ofNat (32-n))
theorem zdg {n:Nat} (h:n<4294967296):IntKind.u64.wrap (n:Int)=n:=by
 simp[IntKind.wrap,IntKind.signed,IntKind.bits];omega
theorem zsl {n:Nat} (h:n<32):(BitVec.ofInt 64 (n:Int) &&& 31#64).toNat=n:=by
 have e:(BitVec.ofInt 64 (n:Int)).toNat=n:=by simp;omega
 rw[BitVec.toNat_and,e]
 have:=Nat.and_two_pow_sub_one_eq_mod n 5
 simp only[Nat.reducePow,Nat.reduceSub]at this
 show n &&& 31=n
 rw[this];omega
def zhj (a b c d:UInt8):UInt32:=((a.toUInt32 <<< 24) ||| (b.toUInt32 <<< 16) ||| (c.toUInt32 <<< 8)) ||| d.toUInt32
theorem zeP (a b c d:UInt8):((((((0:UInt32) <<< 8 ||| a.toUInt32) <<< 8) ||| b.toUInt32) <<< 8 ||| c.toUInt32) <<< 8) ||| d.toUInt32=zhj a b c d:=by
 unfold zhj
 apply UInt32.toBitVec_inj.1
 ext i hi
 simp
 grind
def k64:List UInt32:=[0x428a2f98,0x71374491,0xb5c0fbcf,0xe9b5dba5,0x3956c25b,0x59f111f1,0x923f82a4,0xab1c5ed5,0xd807aa98,0x12835b01,0x243185be,
 0x550c7dc3,0x72be5d74,0x80deb1fe,0x9bdc06a7,0xc19bf174,0xe49b69c1,0xefbe4786,0x0fc19dc6,0x240ca1cc,0x2de92c6f,0x4a7484aa,
 0x5cb0a9dc,0x76f988da,0x983e5152,0xa831c66d,0xb00327c8,0xbf597fc7,0xc6e00bf3,0xd5a79147,0x06ca6351,0x14292967,0x27b70a85,
 0x2e1b2138,0x4d2c6dfc,0x53380d13,0x650a7354,0x766a0abb,0x81c2c92e,0x92722c85,0xa2bfe8a1,0xa81a664b,0xc24b8b70,0xc76c51a3,
 0xd192e819,0xd6990624,0xf40e3585,0x106aa070,0x19a4c116,0x1e376c08,0x2748774c,0x34b0bcb5,0x391c0cb3,0x4ed8aa4a,0x5b9cca4f,
 0x682e6ff3,0x748f82ee,0x78a5636f,0x84c87814,0x8cc70208,0x90befffa,0xa4506ceb,0xbef9a3f7,0xc67178f2]
def h8:List UInt32:=[0x6a09e667,0xbb67ae85,0x3c6ef372,0xa54ff53a,0x510e527f,0x9b05688c,0x1f83d9ab,0x5be0cd19]
theorem zp0 (x:UInt32) (n:Nat) (h0:0<n) (h:n<32):PC Tryz.prog 200 [.av (.int .u32) (wW x),.av (.int .i64) (.i .i64 ((32-n:Nat):Int))] (.av (.int .u32) (wW (vM x n))):=by
 have e1:IntKind.u64.wrap ((32-n:Nat):Int)=((32-n:Nat):Int):=zdg (by omega)
 have e4:(BitVec.ofInt IntKind.u64.bits ((32-n:Nat):Int) &&& BitVec.ofInt IntKind.u64.bits 31).toNat=32-n:=zsl (by omega)
 have e5:IntKind.u64.wrap (32-((32-n:Nat):Int))=(n:Int):=by
  have:(32-((32-n:Nat):Int))=(n:Int):=by omega
  rw[this];exact zdg (by omega)
 have s1:=VZ x h
 have s2:=zsV x (show 32-n<32 by omega)
 have hc:vM x n=(x <<< UInt32.ofNat (32-n)) ||| (x >>> UInt32.ofNat n):=UInt32.or_comm _ _
 refine zow Tryz.func200 cf0 fun imm0 w0=>?_
 have e4':(BitVec.ofNat IntKind.u64.bits (32-n) &&& 31#IntKind.u64.bits).toNat=32-n:=by rw[<-BitVec.ofInt_natCast];exact e4
 simp[e1,e4',e5,Tryz.f200,s1,s2,wor,hc,-BitVec.toNat_or,-BitVec.toNat_and]
theorem wC (x:UInt32) (n:Nat) (h0:0<n) (h:n<32):PC Tryz.prog 178 [.av (.int .u32) (wW x),.av (.int .i64) (.i .i64 n)] (.av (.int .u32) (wW (vM x n))):=by
 have e1:IntKind.i64.wrap (32-(n:Int))=((32-n:Nat):Int):=by rw[i64_in (by omega) (by omega)];omega
 refine zow Tryz.func178 cf0 fun imm0 w0=>?_
 simp[e1]
 refine G6 (r:=.av (.int .u32) (wW (vM x n))) rfl (by simp[qI]) (by simp) ?_ ?_
 ·have:=zp0 x n h0 h
  simpa[TV.er,AV.er]using this
 ·simp[Tryz.f178]
def yY (l:List UInt8):AV:=.sl .no (l.map fun b=>.i .u8 b.toNat)
@[simp] theorem zmH (l:List UInt8):(yY l).er=yY l:=by simp[yY,AV.er,AV.ers_eq,Function.comp_def]
@[simp] theorem zrU (l:List UInt8):(yY l).erk=yY l:=kX _ (zmH l)
theorem PH:PC Tryz.prog 176 [] (.av (.arr 64 126) (.agg (k64.map wW))):=by
 refine zow Tryz.func176 cf0 fun imm0 w0=>?_
 simp[Tryz.f176,k64,wi]
theorem zod:PC Tryz.prog 153 [] (.av (.arr 8 126) (.agg (h8.map wW))):=by
 refine zow Tryz.func153 cf0 fun imm0 w0=>?_
 simp[Tryz.f153,h8,wi]
def lo (x:UInt32):UInt32:=vM x 7 ^^^ vM x 18 ^^^ x >>> UInt32.ofNat 3
def hi (x:UInt32):UInt32:=vM x 17 ^^^ vM x 19 ^^^ x >>> UInt32.ofNat 10
def zjo (w:List UInt32):UInt32:=w[w.length-16]?.getD 0+lo (w[w.length-15]?.getD 0)+w[w.length-7]?.getD 0+hi (w[w.length-2]?.getD 0)
def zmL (b:List UInt8) (n:Nat):UInt32:=zhj (b.getD (4*n) 0) (b.getD (4*n+1) 0) (b.getD (4*n+2) 0) (b.getD (4*n+3) 0)
def QZ (b:List UInt8):Nat->List UInt32
 | 0=>[]
 | n+1=>QZ b n++[if n<16 then zmL b n else zjo (QZ b n)]
@[simp] theorem u9 (b:List UInt8) (n:Nat):(QZ b n).length=n:=by
 induction n with
 | zero=>rfl
 | succ n ih=>simp[QZ,ih]
def d9:List UInt32->UInt32->UInt32->List UInt32
 | [v0,v1,v2,v3,v4,v5,v6,v7],k,w =>
  [v7+(vM v4 6 ^^^ vM v4 11 ^^^ vM v4 25)+(v4 &&& v5 ^^^ ~~~v4 &&& v6)+k+w+((vM v0 2 ^^^ vM v0 13 ^^^ vM v0 22)+(v0 &&& v1 ^^^ v0 &&& v2 ^^^ v1 &&& v2)),v0,v1,v2,
   v3+(v7+(vM v4 6 ^^^ vM v4 11 ^^^ vM v4 25)+(v4 &&& v5 ^^^ ~~~v4 &&& v6)+k+w),v4,v5,v6]
 | _,_,_=>[]
def rnd (b:List UInt8) (v:List UInt32):Nat->List UInt32
 | 0=>v
 | n+1=>d9 (rnd b v n) (k64[n]?.getD 0) ((QZ b 64)[n]?.getD 0)
theorem zmJ {l:List UInt32} (h:l.length=8):∃v0 v1 v2 v3 v4 v5 v6 v7,l=[v0,v1,v2,v3,v4,v5,v6,v7]:=by
 match l,h with
 | [v0,v1,v2,v3,v4,v5,v6,v7],_=>exact⟨v0,v1,v2,v3,v4,v5,v6,v7,rfl⟩
theorem VT {b:List UInt8} {v:List UInt32} (h:v.length=8):∀n,(rnd b v n).length=8
 | 0=>h
 | n+1=>by
  obtain⟨v0,v1,v2,v3,v4,v5,v6,v7,e⟩:=zmJ (VT (b:=b) h n)
  simp[rnd,e,d9]
def kE (h:List UInt32) (b:List UInt8):List UInt32:=List.zipWith (·+·) h (rnd b h 64)
theorem YM {b:List UInt8} {v:List UInt32} (h:v.length=8):(kE v b).length=8:=by
 simp[kE,h,VT h]
theorem ztM {b:List UInt8} {i:Nat} (h:4*i+4<=b.length):(b.take (4*i+4)).drop (4*i)=[b.getD (4*i) 0,b.getD (4*i+1) 0,b.getD (4*i+2) 0,b.getD (4*i+3) 0]:=by
 apply List.ext_getElem
 ·simp;omega
 ·intro n h1 h2
  simp at h1 h2
  have:n=0\/n=1\/n=2\/n=3:=by omega
  rcases this with rfl|rfl|rfl|rfl<;>simp[List.getElem?_eq_getElem,show 4*i<b.length by omega,show 4*i+1<b.length by omega,show 4*i+2<b.length by omega,show 4*i+3<b.length by omega]
abbrev WY (b:UInt8):AV:=.i .u8 b.toNat
def U5 (n:Nat):Nat:=(55+64-n % 64) % 64
theorem zd1 (n:Nat):(n+1+U5 n) % 64=56:=by unfold U5;omega
theorem zll {n k:Nat} (h:k<U5 n):(n+1+k) % 64≠56:=by unfold U5 at h;omega
theorem zpn (n:Nat):U5 n<64:=by unfold U5;omega
def xH (n:Nat):List UInt8:=[UInt8.ofNat (n*8 / 2 ^ 56),UInt8.ofNat (n*8 / 2 ^ 48),UInt8.ofNat (n*8 / 2 ^ 40),UInt8.ofNat (n*8 / 2 ^ 32),UInt8.ofNat (n*8 / 2 ^ 24),UInt8.ofNat (n*8 / 2 ^ 16),UInt8.ofNat (n*8 / 2 ^ 8),UInt8.ofNat (n*8)]
def Y0 (l:List UInt8):List UInt8:=l++[128]++List.replicate (U5 l.length) 0++xH l.length
theorem zhP (l:List UInt8):(Y0 l).length % 64=0:=by
 have:=zd1 l.length
 simp[Y0,xH];omega
theorem zlu (N:Nat):∀j,j<8->(xH N).take (8-j)=(xH N).take (7-j)++[UInt8.ofNat (N*8 / 2 ^ (8*j))]
 | 0,_=>by simp[xH]|1,_=>by simp[xH]|2,_=>by simp[xH]|3,_=>by simp[xH]|4,_=>by simp[xH]|5,_=>by simp[xH]|6,_=>by simp[xH]|7,_=>by simp[xH]
 | j+8,h=>by omega
theorem zqE (m:Nat):IntKind.u8.wrap (m:Int)=((UInt8.ofNat m).toNat:Int):=by
 simp[IntKind.wrap,IntKind.signed,IntKind.bits]
theorem zi6 {n:Int} (h0:0<=n) (h1:n<18446744073709551616):IntKind.u64.wrap n=n:=by
 simp[IntKind.wrap,IntKind.signed,IntKind.bits];omega
theorem zrY (n k:Nat) (h:k<64):((n:Int)).fdiv (2 ^ (min k IntKind.u64.bits))=((n / 2 ^ k:Nat):Int):=by
 rw[show min k IntKind.u64.bits=k by simp[IntKind.bits];omega,Int.fdiv_eq_ediv_of_nonneg _ (Int.le_of_lt (Int.pow_pos (by omega)))]
 norm_cast
theorem zfy:WY 128=.i .u8 128:=rfl
theorem ze1:WY 0=.i .u8 0:=rfl
def ZL (t:List UInt8):Nat->List UInt32
 | 0=>h8
 | n+1=>kE (ZL t n) ((t.drop (64*n)).take 64)
theorem d6 (t:List UInt8):∀n,(ZL t n).length=8
 | 0=>rfl
 | n+1=>YM (d6 t n)
def xS (h:List UInt32):List UInt8:=(List.range 32).map fun i=>(h.getD (i/4) 0 >>> UInt32.ofNat (24-8*(i%4))).toUInt8
def sha (l:List UInt8):List UInt8:=xS (ZL (Y0 l) ((Y0 l).length / 64))
theorem zgn (h:List UInt32):(xS h).length=32:=by simp[xS]
theorem zpj (d:List UInt8):W0 d=.agg (d.map WY):=rfl
end
section
variable [Sel] [SelPow] [SelMax]
structure j9 where
 run:qN
 outs:List Txt
 may:Txt->Bool
 wrote:List (Txt × Txt)
 reads:List xE
 asks:Txt
 over:Bool
 why:Int
def QU (k:KnV):xE:=⟨k.path,k.is,if k.is=true then sha k.data else zes⟩
def Q0 (e:Int) (b:j9):j9:={ b with over:=true,why:=e }
def Y2 (p d:Txt) (b:j9):j9 :=
 if p∈b.wrote.map (·.1)\/p∉b.outs then Q0 14 b else { b with wrote:=b.wrote++[(p,d)] }
def D4 (b:j9):Bool:=b.outs.any fun p=>decide (p∉b.wrote.map (·.1))
noncomputable def roundB (b:j9):j9 × Bool :=
 let d:=(wI b.run).1
 let b':={ b with run:=(wI b.run).2 }
 if d.kind=1 then(if b.may d.path=true then({ b' with asks:=d.path },true) else(Q0 13 b',false))
 else if d.kind=2 then(Y2 d.path d.data b',false)
 else if d.kind=3 then(if D4 b=true then(Q0 14 b',false) else({ b' with over:=true },false))
 else(Q0 d.why b',false)
noncomputable def goN:Nat->j9->Option j9
 | 0,_=>none
 | n+1,b=>if b.over=true then some b else if (roundB b).2=true then some (roundB b).1 else goN n (roundB b).1
noncomputable def ZS (b:j9):j9:=(goN (ccR b.run+2) b).getD b
noncomputable def yN (k:KnV) (b:j9):Int × j9 :=
 if b.over=true then(19,b) else if k.path≠b.asks then(1,b) else if k.is=true/\65536<k.data.length then(6,b)
 else(0,ZS { b with reads:=b.reads++[QU k],run:=(J7 k b.run).2 })
noncomputable def KB (b:j9):List jM:=(kU (b.wrote.map (·.1))).map fun p=>⟨p,((b.wrote.find? fun x=>decide (x.1=p)).getD ([],[])).2⟩
noncomputable def JH (b:j9):yH × Bool :=
 if b.over=false then(⟨0,0,[],[]⟩,false)
 else if b.why=0 then(⟨1,0,KB b,b.reads⟩,true)
 else(⟨2,b.why,[],b.reads⟩,true)
def pdW (d:DoV):Txt × Txt:=(d.path,d.data)
structure zl3 (env:List (Txt × Txt)) (c0:CfV) (kn:List KnV) (outs:List Txt) (may:Txt->Bool) (wr:List DoV) (b:j9):Prop where
 at_:AtR env c0 kn wr b.run
 no2:b.run.over.kind≠2
 wrote:b.wrote=wr.map pdW
 nod:(wr.map (·.path)).Nodup
 own:∀w∈wr,w.path∈outs
 outs:b.outs=outs
 may:b.may=may
 reads:b.reads=kn.map QU
 over:b.over=false
 why:b.why=0
inductive zir (env:List (Txt × Txt)) (c0:CfV) (kn:List KnV) (outs:List Txt) (may:Txt->Bool) (wr:List DoV) (b:j9):Prop
 | waits (d:DoV):KY env c0 kn wr b.run d->d.kind=1->may d.path=true->b.run.waits=true->b.asks=d.path->b.asks=b.run.asks->b.over=false->b.why=0->zir env c0 kn outs may wr b
 | read (d:DoV):KY env c0 kn wr b.run d->d.kind=1->may d.path=false->b.over=true->b.why=13->zir env c0 kn outs may wr b
 | ended (d:DoV):KY env c0 kn wr b.run d->d.kind=3->(∀p∈outs,p∈wr.map (·.path))->b.over=true->b.why=0->zir env c0 kn outs may wr b
 | short (d:DoV):KY env c0 kn wr b.run d->d.kind=3->¬(∀p∈outs,p∈wr.map (·.path))->b.over=true->b.why=14->zir env c0 kn outs may wr b
 | failed (d:DoV):KY env c0 kn wr b.run d->d.kind=4->d.why≠0->b.over=true->b.why=d.why->zir env c0 kn outs may wr b
 | wrote (d:DoV):AtR env c0 kn (wr++[d]) b.run->(d.path∈wr.map (·.path)\/d.path∉outs)->b.over=true->b.why=14->zir env c0 kn outs may wr b
structure uQ (env:List (Txt × Txt)) (c0:CfV) (kn:List KnV) (outs:List Txt) (may:Txt->Bool) (wr:List DoV) (b:j9):Prop where
 e:zir env c0 kn outs may wr b
 wrote:b.wrote=wr.map pdW
 nod:(wr.map (·.path)).Nodup
 own:∀w∈wr,w.path∈outs
 outs:b.outs=outs
 may:b.may=may
 reads:b.reads=kn.map QU
theorem cO {wr:List DoV} {l:List (Txt × Txt)} (h:l=wr.map pdW):l.map (·.1)=wr.map (·.path):=by
 simp_all[pdW]
theorem KY.ov {env:List (Txt × Txt)} {c0:CfV} {kn:List KnV} {wr:List DoV} {r:qN} {d:DoV} (h:KY env c0 kn wr r d):d.kind=1/\r.waits=true/\d.path=r.asks\/d.kind=3/\d=⟨3,[],[],0⟩\/d.kind=4/\d.why≠0:=by
 by_cases hw:r.waits=true
 ·exact .inl ⟨h.waits.2 hw,hw,by rw[h.asks hw]⟩
 ·have hw':r.waits=false:=by simp_all
  have hd:=h.over hw'
  have hst:=h.stops
  have hk0:r.over.kind≠0:=by
   simp_all[w8]
  rcases h.at_.ov.1 with h1|⟨h1,_⟩|h1|⟨h1,h2⟩
  ·rw[h1]at hk0;exact absurd rfl hk0
  ·exact absurd h1 h.no2
  ·simp_all
  simp_all
theorem znr {env:List (Txt × Txt)} {c0:CfV} {kn:List KnV} {outs:List Txt} {may:Txt->Bool} {wr:List DoV} {b:j9} (h:zl3 env c0 kn outs may wr b) :
  (∃d,zl3 env c0 kn outs may (wr++[d]) (roundB b).1/\(roundB b).2=false/\ccR (roundB b).1.run<ccR b.run)\/(uQ env c0 kn outs may wr (roundB b).1/\((roundB b).2=true\/(roundB b).1.over=true)):=by
 have hwp:=cO h.wrote
 obtain⟨d,hd⟩:∃d,d=(wI b.run).1:=⟨_,rfl⟩
 obtain⟨r',hr'⟩:∃r',r'=(wI b.run).2:=⟨_,rfl⟩
 have hn:=h.at_.next h.no2
 rw[<-hd,<-hr']at hn
 unfold roundB
 simp only[<-hd,<-hr']
 rcases hn with⟨h1,h2,h3,h4⟩|hs
 ·rw[if_neg (by omega),if_pos h1]
  unfold Y2
  simp only[hwp,h.outs]
  by_cases hb:d.path∈wr.map (·.path)\/d.path∉outs
  ·rw[if_pos hb]
   right
   exact⟨⟨.wrote d h2 hb rfl rfl,h.wrote,h.nod,h.own,rfl,h.may,h.reads⟩,.inr rfl⟩
  ·rw[if_neg hb]
   left
   have hb1:d.path∉wr.map (·.path):=fun e=>hb (.inl e)
   have hb2:d.path∈outs:=Classical.byContradiction fun e=>hb (.inr e)
   refine⟨d,⟨h2,by simp_all,by simp only[h.wrote,List.map_append];rfl,?_,?_,rfl,h.may,h.reads,h.over,h.why⟩,trivial,h3⟩
   ·rw[List.map_append]
    refine List.nodup_append.2 ⟨h.nod,by simp,fun a ha c hc=>?_⟩
    grind
   ·intro w hw
    rcases List.mem_append.1 hw with hw|hw
    ·exact h.own w hw
    simp_all
 ·right
  rcases hs.ov with⟨h1,h2,h3⟩|⟨h1,h2⟩|⟨h1,h2⟩
  ·rw[if_pos h1,h.may]
   by_cases hm:may d.path=true
   ·rw[if_pos hm]
    exact⟨⟨.waits d hs h1 hm h2 rfl h3 h.over h.why,h.wrote,h.nod,h.own,h.outs,rfl,h.reads⟩,.inl rfl⟩
   ·rw[if_neg hm]
    exact⟨⟨.read d hs h1 (by simp_all) rfl rfl,h.wrote,h.nod,h.own,h.outs,rfl,h.reads⟩,.inr rfl⟩
  ·rw[if_neg (by omega),if_neg (by omega),if_pos h1]
   have hl:D4 b=true<->¬∀p∈outs,p∈wr.map (·.path):=by
    unfold D4
    rw[hwp,h.outs]
    simp
   by_cases hm:D4 b=true
   ·rw[if_pos hm]
    exact⟨⟨.short d hs h1 (hl.1 hm) rfl rfl,h.wrote,h.nod,h.own,h.outs,h.may,h.reads⟩,.inr rfl⟩
   ·rw[if_neg hm]
    exact⟨⟨.ended d hs h1 (Classical.byContradiction fun e=>hm (hl.2 e)) rfl h.why,h.wrote,h.nod,h.own,h.outs,h.may,h.reads⟩,.inr rfl⟩
  ·rw[if_neg (by omega),if_neg (by omega),if_neg (by omega)]
   exact⟨⟨.failed d hs h1 h2 rfl rfl,h.wrote,h.nod,h.own,h.outs,h.may,h.reads⟩,.inr rfl⟩
theorem zqP {env:List (Txt × Txt)} {c0:CfV} {kn:List KnV} {outs:List Txt} {may:Txt->Bool}:∀(n:Nat) {wr:List DoV} {b:j9},zl3 env c0 kn outs may wr b->ccR b.run<n->∃b' m,goN (n+1) b=some b'/\uQ env c0 kn outs may (wr++m) b'
 | 0,_,_,_,h=>absurd h (Nat.not_lt_zero _)
 | n+1,wr,b,h,hc=>by
  rw[goN,if_neg (by rw[h.over];decide)]
  rcases znr h with⟨d,h1,h2,h3⟩|⟨h1,h2⟩
  ·rw[if_neg (by simp_all)]
   obtain⟨b',m,h4,h5⟩:=zqP n h1 (by omega)
   grind
  ·by_cases h3:(roundB b).2=true
   ·rw[if_pos h3];exact⟨_,[],rfl,by simp_all⟩
   ·rw[if_neg h3,goN,if_pos (h2.resolve_left h3)]
    exact⟨_,[],rfl,by simp_all⟩
theorem PL {env:List (Txt × Txt)} {c0:CfV} {kn:List KnV} {outs:List Txt} {may:Txt->Bool} {wr:List DoV} {b:j9} (h:zl3 env c0 kn outs may wr b):goN (ccR b.run+2) b=some (ZS b)/\∃m,uQ env c0 kn outs may (wr++m) (ZS b):=by
 obtain⟨b',m,h1,h2⟩:=zqP (ccR b.run+1) h (by omega)
 grind [ZS]
theorem uQ.tell {env:List (Txt × Txt)} {c0:CfV} {kn:List KnV} {outs:List Txt} {may:Txt->Bool} {wr:List DoV} {b:j9} (h:uQ env c0 kn outs may wr b) (ho:b.over=false) (k:KnV) (hp:k.path=b.asks) (hd:k.is=true->k.data.length<=65536) :
  zl3 env c0 (kn++[k]) outs may wr { b with reads:=b.reads++[QU k],run:=(J7 k b.run).2 }/\(J7 k b.run).1=0:=by
 cases h.e with
 | waits d hs h1 hm hw ha ha2 h3 h4 =>
  obtain⟨g1,g2,g3,_⟩:=hs.give k hw (hp.trans ha2) hd
  exact⟨⟨g2,by simp_all,h.wrote,h.nod,h.own,h.outs,h.may,by simp only[h.reads,List.map_append];rfl,h3,h4⟩,g1⟩
 | read d _ _ _ h3 _=>simp_all
 | ended d _ _ _ h3 _=>simp_all
 | short d _ _ _ h3 _=>simp_all
 | failed d _ _ _ h3 _=>simp_all
 | wrote d _ _ h3 _=>simp_all
theorem AtR.s {env:List (Txt × Txt)} {c0:CfV} {kn:List KnV} {wr:List DoV} {r:qN} (h:AtR env c0 kn wr r):kn.length<=500:=by
 have hk:r.known.length<=500:=by
  rcases h.inv with⟨g,_⟩|⟨_,_,_,_,g,_⟩
  ·exact g.nk
  ·exact g.nk
 rw[h.kno]at hk;exact hk
theorem uQ.len {env:List (Txt × Txt)} {c0:CfV} {kn:List KnV} {outs:List Txt} {may:Txt->Bool} {wr:List DoV} {b:j9} (h:uQ env c0 kn outs may wr b):kn.length<=500:=by
 cases h.e with
 | waits d hs=>exact hs.at_.s
 | read d hs=>exact hs.at_.s
 | ended d hs=>exact hs.at_.s
 | short d hs=>exact hs.at_.s
 | failed d hs=>exact hs.at_.s
 | wrote d hs=>exact hs.s
theorem uQ.asks {env:List (Txt × Txt)} {c0:CfV} {kn:List KnV} {outs:List Txt} {may:Txt->Bool} {wr:List DoV} {b:j9} (h:uQ env c0 kn outs may wr b) (ho:b.over=false):may b.asks=true/\jR kn b.asks=none/\b.why=0:=by
 cases h.e with
 | waits d hs h1 hm hw ha ha2 h3 h4 =>
  refine⟨by simp_all,?_,h4⟩
  rcases hs.at_.inv with⟨_,h2⟩|⟨l,k,p,e,g2,g3,g4,_⟩
  ·simp_all
  ·obtain⟨q1,q2,_⟩:=g4 hw
   rw[ha2,q1,<-hs.at_.kno];exact q2
 | read d _ _ _ h3 _=>simp_all
 | ended d _ _ _ h3 _=>simp_all
 | short d _ _ _ h3 _=>simp_all
 | failed d _ _ _ h3 _=>simp_all
 | wrote d _ _ h3 _=>simp_all
theorem uQ.give {env:List (Txt × Txt)} {c0:CfV} {kn:List KnV} {outs:List Txt} {may:Txt->Bool} {wr:List DoV} {b:j9} (h:uQ env c0 kn outs may wr b) (ho:b.over=false) (k:KnV) (hp:k.path=b.asks) (hd:k.is=true->k.data.length<=65536) :
  (yN k b).1=0/\∃m,uQ env c0 (kn++[k]) outs may (wr++m) (yN k b).2:=by
 have h1:=(h.tell ho k hp hd).1
 simp_all[yN,if_neg,PL]
structure zse (known kn:List KnV) (may:Txt->Bool):Prop where
 each:∀k∈kn,jR known k.path=some k
 nod:(kn.map (·.path)).Nodup
 may:∀k∈kn,may k.path=true
theorem uQ.out {env:List (Txt × Txt)} {c0:CfV} {kn:List KnV} {outs:List Txt} {may:Txt->Bool} {wr:List DoV} {b:j9} (h:uQ env c0 kn outs may wr b) (ho:b.over=true):(b.why=0/\∀p∈outs,p∈wr.map (·.path))\/b.why≠0:=by
 cases h.e with
 | waits d _ _ _ _ _ _ h3 _=>simp_all
 | read d _ _ _ _ h4=>omega
 | ended d _ _ h2 _ h4=>simp_all
 | short d _ _ _ _ h4=>omega
 | failed d _ _ h2 _ h4=>omega
 | wrote d _ _ _ h4=>omega
noncomputable def dX (env:List (Txt × Txt)) (outs:List Txt) (may:Txt->Bool) (cs:List CmdV):j9:=⟨⟨(cs.reverse).map .cmd,env,[],[],[],false,do0,[]⟩,outs,may,[],[],[],false,0⟩
noncomputable def U0 (env:List (Txt × Txt)) (outs:List Txt) (may:Txt->Bool) (cs:List CmdV):j9:=ZS (dX env outs may cs)
def zeK (cs:List CmdV):CfV:=⟨cs.map .cmd,st0,[]⟩
theorem zdB (env:List (Txt × Txt)) (cs:List CmdV) (hl:cs.length<=400):W4 ⟨(cs.reverse).map .cmd,env,[],[],[],false,do0,[]⟩:=by
 refine .inl ⟨⟨⟨(cs.reverse).map .cmd,[],by simp,fun t ht=>?_,by simp⟩,?_,?_,by simp,by simp,by simp⟩,rfl⟩
 ·obtain⟨c,_,rfl⟩:=List.mem_map.1 ht
  rfl
 ·have hs:XD ([]:List KnV) ((cs.reverse).map .cmd)=0:=VQ _ _ fun t ht=>by
   obtain⟨c,_,rfl⟩:=List.mem_map.1 ht
   rfl
  simp_all[XO]
 grind [List.countP_le_length]
theorem zho (env:List (Txt × Txt)) (outs:List Txt) (may:Txt->Bool) (cs:List CmdV) (hl:cs.length<=400):zl3 env (zeK cs) [] outs may [] (dX env outs may cs):=by
 refine⟨⟨zdB env cs hl,⟨.inl rfl,fun _=>rfl⟩,rfl,rfl,fun kn' _=>?_⟩,by show (0:Int)≠2;decide,rfl,by simp,by simp,rfl,rfl,rfl,rfl,rfl⟩
 have:kO [] (dX env outs may cs).run=zeK cs:=by
  simp[kO,dX,zeK,st0,do0]
 rw[this];exact .refl _
theorem zh9 (env:List (Txt × Txt)) (outs:List Txt) (may:Txt->Bool) (cs:List CmdV) (hl:cs.length<=400):∃m,uQ env (zeK cs) [] outs may m (U0 env outs may cs):=by
 obtain⟨m,h⟩:=(PL (zho env outs may cs hl)).2
 grind [U0]
theorem zse.nil (known:List KnV) (may:Txt->Bool):zse known [] may:=⟨by simp,by simp,by simp⟩
end
end Go.Proofs.YtfkcpballfhddaaGreatDoor
