/- The document's tool as small steps, and the program's tool beside it: . No condition. -/
import Derived.Test.YtdkieabmeiojjaaGreatDoorKM
set_option linter.unusedSimpArgs false
set_option linter.unusedVariables false
set_option linter.unusedSectionVars false
set_option maxRecDepth 100000
namespace Go.Proofs.YtdkieabmeiojjaaGreatDoor
open Go Go.Ab
open Classical
section
variable [Sel] [SelPow] [SelMax]
structure StV where
 buf:Txt
 asked:List Txt
 wrote:List DoV
 stop:DoV
structure CfV where
 td:List TdV
 st:StV
 done:List Txt
def st0:StV:=⟨[],[],[],do0⟩
def QD (e:Int) (s:StV):StV:={ s with stop:=⟨4,[],[],e⟩ }
def yZ (t:Txt) (s:StV):StV:=if 65536<s.buf.length+t.length then QD 6 s else { s with buf:=s.buf++t }
def CfV.map (c:CfV) (f:StV->StV):CfV:={ c with st:=f c.st }
def GD (p:Txt) (k:CoV) (c:CfV):CfV :=
 if p∈c.st.asked then { c with td:=.ans k p::c.td }
 else if 500<=c.st.asked.length then c.map (QD 6)
 else { c with td:=.ans k p::c.td,st:={ c.st with asked:=c.st.asked++[p] } }
def thS:ThV->Txt->CfV->CfV
 | .add,d,c=>c.map (yZ d)
 | .scan w,d,c=>{ c with td:=((qU d).map fun s=>.line s w)++c.td }
def coS:CoV->KnV->CfV->CfV
 | .there t,x,c=>if x.is=true then thS t x.data c else c.map (QD 10)
 | .tr,x,c=>if x.is=true then c.map (yZ x.data) else c
def zaW (p w:Txt) (c:CfV):CfV:=GD p (.there (.scan w)) { c with done:=c.done++[p] }
def DJ (s w:Txt) (c:CfV):CfV :=
 match zG s with
 | [a,p]=>if a≠w\/w5 p=false then c.map (yZ (s++[10])) else if p∈c.done then c else zaW p w c
 | _=>c.map (yZ (s++[10]))
noncomputable def cM (name arg buf:Txt):Txt :=
 if name=wV then(k7 (qU buf)).flatMap (·++[10])
 else if name=yG then(jJ (qU buf)).flatMap (·++[10])
 else if name=kV then buf.map upB
 else if name=wC then Lib.itoa (qU buf).length++[10]
 else if name=y3 then((qU buf).filter fun s=>Lib.contains s arg).flatMap (·++[10])
 else buf
noncomputable def VU (env:List (Txt × Txt)) (c:CmdV) (f:CfV):CfV :=
 let w:=c.words.getD 0 []
 let arg:=c.words.getD 1 []
 if w=zU then GD arg (.there .add) f
 else if w=wF then GD arg .tr f
 else if w=jM then zaW arg (c.words.getD 2 []) { f with done:=[] }
 else if w=jZ then f.map (yZ (c.rest++[10]))
 else if w=Q3 then(match env.find? fun x=>decide (x.1=arg)with
  | some x=>f.map (yZ x.2)
  | none=>f.map (QD 10))
 else if w=jN then f.map fun s=>{ s with wrote:=s.wrote++[⟨2,arg,s.buf,0⟩],buf:=[] }
 else if w=kF then(if (qU f.st.buf).any (fun s=>Lib.contains s arg)=true then f else f.map (QD 15))
 else if w=QF then f.map (QD 15)
 else f.map fun s=>yZ (cM w arg s.buf) { s with buf:=[] }
noncomputable def JJ (env:List (Txt × Txt)) (kn:List KnV) (c:CfV):CfV:=match c.td with
 | []=>c.map fun s=>{ s with stop:=⟨3,[],[],0⟩ }
 | .cmd x::l=>VU env x { c with td:=l }
 | .line s w::l=>DJ s w { c with td:=l }
 | .ans k p::l=>(match j3 kn p with
  | some x=>coS k x { c with td:=l }
  | none=>CfV.map { c with td:=l } fun s=>{ s with stop:=⟨1,p,[],0⟩ })
inductive QA (env:List (Txt × Txt)) (kn:List KnV):CfV->CfV->Prop
 | refl (c):QA env kn c c
 | step {c c'}:c.st.stop.kind=0->QA env kn (JJ env kn c) c'->QA env kn c c'
theorem QA.trans {env:List (Txt × Txt)} {kn:List KnV} {a b c:CfV} (h:QA env kn a b) (g:QA env kn b c):QA env kn a c:=by
 induction h with
 | refl=>exact g
 | step h _ ih=>exact .step h (ih g)
theorem QA.one {env:List (Txt × Txt)} {kn:List KnV} {a:CfV} (h:a.st.stop.kind=0):QA env kn a (JJ env kn a):=.step h (.refl _)
theorem QA.det {env:List (Txt × Txt)} {kn:List KnV} {a b c:CfV} (h:QA env kn a b) (g:QA env kn a c) (hb:b.st.stop.kind≠0) (hc:c.st.stop.kind≠0):b=c:=by
 induction h with
 | refl =>
  cases g with
  | refl=>rfl
  | step h1 _=>omega
 | step h1 _ ih =>
  cases g with
  | refl=>omega
  | step _ g1=>simp_all
noncomputable def jV (wr:List DoV) (r:qG):CfV :=
 ⟨r.todo.reverse,⟨r.buf,r.known.map (·.path)++(if r.waits=true then [r.asks] else []),if r.over.kind=2 then wr++[r.over] else wr,if r.over.kind=2 then do0 else r.over⟩,r.seen⟩
theorem DL (wr:List DoV) {r:qG} (hw:r.waits=false) (ho:r.over=do0):jV wr r=⟨r.todo.reverse,⟨r.buf,r.known.map (·.path),wr,do0⟩,r.seen⟩:=by
 simp_all[jV,do0]
theorem zbc {kn kn':List KnV} {p:Txt} {x:KnV} (h:kn <+: kn') (hf:j3 kn p=some x):j3 kn' p=some x:=by
 obtain⟨m,rfl⟩:=h
 simp_all[j3]
theorem zdm {kn:List KnV} {p:Txt} {x:KnV} (hf:j3 kn p=some x):p∈kn.map (·.path):=by
 obtain⟨h1,h2⟩:=GV hf
 grind
theorem zaq {kn:List KnV} {p:Txt} (hf:j3 kn p=none):p∉kn.map (·.path):=by
 intro h
 obtain⟨x,h1,h2⟩:=List.mem_map.1 h
 have:=List.find?_eq_none.1 hf x h1
 simp_all
structure zqG (wr:List DoV) (r r':qG) (c:CfV):Prop where
 eq:jV wr r'=c
theorem W6 (wr:List DoV) (e:Int) {r:qG} (hw:r.waits=false) (ho:r.over=do0):jV wr (w6 e r)=(jV wr r).map (QD e):=by
 simp_all[jV,w6,CfV.map,QD,do0]
theorem JE (wr:List DoV) (t:Txt) {r:qG} (hw:r.waits=false) (ho:r.over=do0):jV wr (y6 t r)=(jV wr r).map (yZ t):=by
 grind [y6,W6,jV,CfV.map,yZ]
theorem zgr (wr:List DoV) (k:CoV) (x:KnV) {r:qG} (hw:r.waits=false) (ho:r.over=do0):jV wr (coR k x r)=coS k x (jV wr r):=by
 cases hx:x.is with
 | false =>
  cases k with
  | tr=>simp[coR,coS,hx]
  | there t=>simp_all[coR,coS,W6]
 | true =>
  cases k with
  | tr=>simp_all[coR,coS,JE]
  | there t=>cases t with
   | add=>simp_all[coR,coS,thR,thS,JE]
   | scan w=>simp_all[coR,coS,thR,thS,jV]
theorem zag (env:List (Txt × Txt)) {kn:List KnV} (wr:List DoV) (p:Txt) (k:CoV) {r:qG} (hk:r.known <+: kn) (hw:r.waits=false) (ho:r.over=do0):QA env kn (GD p k (jV wr r)) (jV wr (yN p k r)):=by
 have e:=DL wr hw ho
 unfold yN
 cases hf:j3 r.known p with
 | some x =>
  have h1:=zdm hf
  have h2:=zbc hk hf
  have ha:p∈(jV wr r).st.asked:=by simp_all
  simp only[GD,ha,if_true]
  refine .step (by rw[e];rfl) ?_
  simp only[JJ,h2]
  rw[zgr wr k x hw ho]
  exact .refl _
 | none =>
  have h1:=zaq hf
  have ha:¬p∈(jV wr r).st.asked:=by simp_all
  have hl:(jV wr r).st.asked.length=r.known.length:=by rw[e];simp
  simp only[GD,ha,if_false,hl]
  by_cases h5:500<=r.known.length
  ·simp only[h5,if_true]
   rw[W6 wr 6 hw ho]
   exact .refl _
  ·simp only[h5,if_false]
   have:jV wr { r with asks:=p,waits:=true,todo:=r.todo++[.ans k p] }={ jV wr r with td:=.ans k p::(jV wr r).td,st:={ (jV wr r).st with asked:=(jV wr r).st.asked++[p] } }:=by
    simp_all[jV]
   rw[this]
   exact .refl _
theorem zaZ (env:List (Txt × Txt)) {kn:List KnV} (wr:List DoV) (p w:Txt) {r:qG} (hk:r.known <+: kn) (hw:r.waits=false) (ho:r.over=do0):QA env kn (zaW p w (jV wr r)) (jV wr (ZD p w r)):=by
 have:=zag env wr p (.there (.scan w)) (r:={ r with seen:=r.seen++[p] }) hk hw ho
 exact this
theorem zi7 (env:List (Txt × Txt)) {kn:List KnV} (wr:List DoV) (s w:Txt) {r:qG} (hk:r.known <+: kn) (hw:r.waits=false) (ho:r.over=do0):QA env kn (DJ s w (jV wr r)) (jV wr (QP s w r)):=by
 unfold DJ QP
 generalize zG s=ws
 rcases ws with _|⟨a,_|⟨p,_|⟨q,l⟩⟩⟩
 ·simp only;rw[JE wr _ hw ho];exact .refl _
 ·simp only;rw[JE wr _ hw ho];exact .refl _
 ·simp only
  by_cases h1:a≠w\/w5 p=false
  ·rw[if_pos h1,if_pos h1,JE wr _ hw ho];exact .refl _
  ·rw[if_neg h1,if_neg h1]
   have:(jV wr r).done=r.seen:=rfl
   rw[this]
   by_cases h2:p∈r.seen
   ·rw[if_pos h2,if_pos h2];exact .refl _
   simp_all[zaZ]
 ·simp only;rw[JE wr _ hw ho];exact .refl _
theorem zjV (wr:List DoV) (b:Txt) {r:qG} (hw:r.waits=false) (ho:r.over=do0):jV wr { r with buf:=b }=(jV wr r).map fun s=>{ s with buf:=b }:=by
 rfl
theorem C6 (t:Txt) (s:StV) (h:t.length<=65536):yZ t { s with buf:=[] }={ s with buf:=t }:=by
 grind [yZ]
theorem vN (wr:List DoV) (l:List Txt) {r:qG} (hw:r.waits=false) (ho:r.over=do0):jV wr (kH l r)=(jV wr r).map fun s=>yZ (l.flatMap (·++[10])) { s with buf:=[] }:=by
 unfold kH
 rw[JE wr _ (r:={ r with buf:=[] }) hw ho,zjV wr [] hw ho]
 rfl
theorem zim (wr:List DoV) (n a:Txt) {r:qG} (hw:r.waits=false) (ho:r.over=do0) (hb:r.buf.length<=65536):jV wr (kX n a r)=(jV wr r).map fun s=>yZ (cM n a s.buf) { s with buf:=[] }:=by
 have eb:(jV wr r).st.buf=r.buf:=rfl
 unfold kX cM
 simp only[CfV.map,eb]
 split
 ·rw[vN wr _ hw ho];rfl
 split
 ·rw[vN wr _ hw ho];rfl
 split
 ·rw[C6 _ _ (by simp_all)]
  rfl
 split
 ·have h1:=ZU r.buf
  have h2:(Lib.itoa ((qU r.buf).length:Int)).length<=21:=Lib.itoa_length_le _ (by omega) (by omega)
  rw[C6 _ _ (by grind)]
  rfl
 split
 ·rw[vN wr _ hw ho];rfl
 grind [C6,jV]
theorem zl0 (env:List (Txt × Txt)) {kn:List KnV} (wr:List DoV) (c:CmdV) {r:qG} (he:r.env=env) (hk:r.known <+: kn) (hw:r.waits=false) (ho:r.over=do0) (hb:r.buf.length<=65536):QA env kn (VU env c (jV wr r)) (jV wr (doR c r)):=by
 have e:=DL wr hw ho
 have eb:(jV wr r).st.buf=r.buf:=rfl
 subst he
 unfold VU doR
 simp only
 split
 ·grind [zag]
 split
 ·grind [zag]
 split
 ·exact zaZ _ wr _ _ (r:={ r with seen:=[] }) hk hw ho
 split
 ·rw[JE wr _ hw ho];exact .refl _
 split
 ·cases hf:(r.env.find? fun x=>decide (x.1=c.words.getD 1 []))with
  | some x=>simp only;rw[JE wr _ hw ho];exact .refl _
  | none=>simp only;rw[W6 wr _ hw ho];exact .refl _
 split
 ·have:jV wr { r with over:=⟨2,c.words.getD 1 [],r.buf,0⟩,buf:=[] }=(jV wr r).map fun s=>{ s with wrote:=s.wrote++[⟨2,c.words.getD 1 [],s.buf,0⟩],buf:=[] }:=by
   simp_all[jV,CfV.map]
  rw[this];exact .refl _
 split
 ·rw[eb]
  split
  ·exact .refl _
  ·rw[W6 wr _ hw ho];exact .refl _
 split
 ·rw[W6 wr _ hw ho];exact .refl _
 ·rw[zim wr _ _ hw ho hb];exact .refl _
theorem zhw (env:List (Txt × Txt)) {kn:List KnV} (wr:List DoV) {r:qG} (hi:JN r) (he:r.env=env) (hk:r.known <+: kn) (hw:r.waits=false) (ho:r.over=do0):QA env kn (jV wr r) (jV wr (yX r)):=by
 have e:=DL wr hw ho
 refine .step (by rw[e];rfl) ?_
 rcases List.eq_nil_or_concat r.todo with ht|⟨l,t,ht⟩
 ·rw[W7 ht]
  have:JJ env kn (jV wr r)=jV wr { r with over:=⟨3,[],[],0⟩ }:=by
   simp_all[JJ,CfV.map,jV]
  rw[this];exact .refl _
 ·rw[List.concat_eq_append]at ht
  rw[W9 ht]
  have htd:(jV wr r).td=t::l.reverse:=by simp_all
  have hr:({ jV wr r with td:=l.reverse }:CfV)=jV wr { r with todo:=l }:=rfl
  have hbuf:r.buf.length<=65536:=by
   rcases hi with⟨h,_⟩|⟨_,_,_,_,h,_⟩
   ·exact h.buf
   ·exact h.buf
  cases t with
  | cmd c =>
   simp_all[JJ,tdR,zl0]
  | line s w =>
   simp_all[JJ,tdR,zi7]
  | ans k p =>
   simp only[JJ,htd,hr,tdR]
   have hf:∃x,j3 r.known p=some x:=by
    rcases hi with⟨h,_⟩|⟨l',k',p',h1,h2,h3,h4,h5⟩
    ·obtain⟨a,b,h1,h2,h3⟩:=h.ord
     have hm:TdV.ans k p∈a++b:=by simp_all
     grind [isC,isL]
    simp_all
   obtain⟨x,hf⟩:=hf
   have h2:=zbc hk hf
   have h3:(j3 { r with todo:=l }.known p).getD kn0=x:=by simp[hf]
   rw[h3]
   simp only[h2]
   rw[zgr wr k x (r:={ r with todo:=l }) hw ho]
   exact .refl _
def XE:Txt->Txt
 | []=>[]
 | c::r=>if gN c=true then XE r else c::r
def Q1:Txt->Txt
 | []=>[]
 | c::r=>if gN c=true then c::r else Q1 r
def gP (l:Txt):Txt:=(Q1 (XE l)).drop 1
theorem PF:∀l:Txt,jY [] l=jY [] (XE l)
 | []=>rfl
 | c::r=>by
  unfold XE
  split
  ·rename_i h
   rw[jY,if_pos h,if_pos rfl]
   exact PF r
  ·rfl
theorem DR:∀(l cur:Txt),cur≠[]->jY cur l=(cur++l.take (l.length-(Q1 l).length))::jY [] (Q1 l)
 | [],cur,h=>by simp[jY,Q1,h]
 | c::r,cur,h=>by
  unfold Q1
  split
  ·simp_all[jY]
  ·rename_i hc
   rw[jY,if_neg hc,DR r (cur++[c]) (by simp)]
   have:(Q1 r).length<=r.length:=by
    have:∀q:Txt,(Q1 q).length<=q.length:=by
     intro q
     induction q with
     | nil=>simp[Q1]
     | cons x q ih=>grind [Q1]
    exact this r
   rw[show (c::r).length-(Q1 r).length=r.length-(Q1 r).length+1 by simp;omega]
   simp
theorem zaN:∀q:Txt,(Q1 q).length<=q.length
 | []=>by simp[Q1]
 | x::q=>by
  have:=zaN q
  unfold Q1;split<;>simp;omega
theorem pP:∀q:Txt,q=q.take (q.length-(Q1 q).length)++Q1 q
 | []=>rfl
 | c::r=>by
  have hl:=zaN r
  have ih:=pP r
  unfold Q1
  split
  ·simp
  ·rw[show (c::r).length-(Q1 r).length=r.length-(Q1 r).length+1 by simp;omega,List.take_succ_cons,List.cons_append,<-ih]
theorem P5:∀l:Txt,∃b,l=b++XE l/\∀c∈b,gN c=true
 | []=>⟨[],rfl,by simp⟩
 | c::r=>by
  unfold XE
  split
  ·rename_i h
   obtain⟨b,h1,h2⟩:=P5 r
   grind
  simp
theorem zg2 {l w:Txt} {ws:List Txt} (h:zG l=w::ws):XE l=w++Q1 (XE l):=by
 rw[zG,PF]at h
 cases hd:XE l with
 | nil=>simp_all[jY]
 | cons c r =>
  have hc:gN c=false:=by
   have:∀q:Txt,∀ {c r},XE q=c::r->gN c=false:=by
    intro q
    induction q with
    | nil=>intro c r e;cases e
    | cons x q ih =>
     grind [XE]
   grind
  rw[hd,jY,if_neg (by simp[hc]),List.nil_append,DR r [c] (by simp)]at h
  obtain⟨h1,_⟩:=List.cons.inj h
  have hs:=pP r
  have hw:Q1 (c::r)=Q1 r:=by rw[Q1,if_neg (by simp[hc])]
  grind
theorem zda {l:Txt} {ws:List Txt} (h:zG l=jZ::ws):(l.drop ((Lib.index l jZ).toNat+4)).drop 1=gP l:=by
 obtain⟨b,h1,h2⟩:=P5 l
 have h3:=zg2 h
 have hl:l=b++(jZ++Q1 (XE l)):=by grind
 have hocc:Lib.occAt l jZ b.length=true:=by
  grind [Lib.occAt]
 have hno:∀j,j<b.length->Lib.occAt l jZ j=false:=by
  intro j hj
  unfold Lib.occAt
  have hd:l.drop j=b[j]::l.drop (j+1):=by
   grind [List.drop_eq_getElem_cons]
  rw[hd]
  have hs:=h2 b[j] (List.getElem_mem hj)
  have hne:¬b[j]=116:=by
   intro e
   rw[e]at hs
   revert hs
   decide
  grind [jZ]
 have hi:=Lib.index_first (by rw[hl];simp) hocc hno
 rw[hi]
 unfold gP
 congr 1
 grind [Int.toNat_natCast,jZ]
end
section
variable [Sel]
theorem kG {α β:Type} (f:α->β) (l:List α) (k:Nat) (h:k<l.length):(l.map f)[k]?=some (f l[k]):=by rw[List.getElem?_map,List.getElem?_eq_getElem h];rfl
theorem zr7 {α:Type} {a b:List α} (hl:a.length=b.length) (h:∀i (h1:i<a.length) (h2:i<b.length),a[i]=b[i]):a=b:=List.ext_getElem hl fun i h1 h2=>h i h1 h2
end
section
variable [Sel] [SelPow] [SelMax]
def zqM (inw:Bool) (ps:List Txt) (l:Txt):List Txt:=match inw with
 | true=>ps.dropLast++jY (ps.getLastD []) l
 | false=>ps++jY [] l
theorem zr1 {ps:List Txt} (h:ps≠[]):ps=ps.dropLast++[ps.getLastD []]:=by
 rcases List.eq_nil_or_concat ps with rfl|⟨q,x,rfl⟩
 ·simp_all
 ·simp
theorem zrx {ps:List Txt} {c:UInt8} {r:Txt} (hps:ps≠[]) (hl:ps.getLastD []≠[]) (hc:gN c=true):zqM true ps (c::r)=zqM false ps r:=by
 unfold zqM
 simp only
 rw[jY,if_pos hc,if_neg hl]
 grind [zr1]
theorem zro {ps:List Txt} {c:UInt8} {r:Txt} (hc:gN c=true):zqM false ps (c::r)=zqM false ps r:=by
 simp_all[zqM,jY]
theorem zsj {ps:List Txt} {c:UInt8} {r:Txt} (hps:ps≠[]) (hc:gN c=false):zqM true ps (c::r)=zqM true (ps.set (ps.length-1) (ps.getLastD []++[c])) r:=by
 unfold zqM
 simp only
 rw[jY,if_neg (by simp[hc])]
 obtain⟨q,x,rfl⟩:∃q x,ps=q++[x]:=⟨_,_,zr1 hps⟩
 simp
theorem zs8 {ps:List Txt} {c:UInt8} {r:Txt} (hc:gN c=false):zqM false ps (c::r)=zqM true (ps++[[c]]) r:=by
 simp_all[zqM,jY]
theorem zrW (inw:Bool) (ps:List Txt) (h:inw=true->ps≠[]/\ps.getLastD []≠[]):zqM inw ps []=ps:=by
 cases inw with
 | false=>simp[zqM,jY]
 | true =>
  obtain⟨h1,h2⟩:=h rfl
  unfold zqM
  simp only[jY,if_neg h2]
  grind [zr1]
def zph (w:Txt) (ws:List Txt):Bool :=
 if w=jZ then true
 else if w=zU\/w=wF\/w=jN then decide (ws.length=1)&&w5 (ws.getD 0 [])
 else if w=jM then decide (ws.length=2)&&w5 (ws.getD 0 [])
 else if w=Q3\/w=y3\/w=kF then decide (ws.length=1)
 else if w=wV\/w=yG\/w=kV\/w=wC\/w=QF then decide (ws.length=0)
 else false
def G7:List Txt->Bool
 | []=>true
 | w::_=>decide (w.head?=some 35)
def VJ (l:List Txt):Bool:=G7 l||(match l with|[]=>true|w::ws=>zph w ws)
theorem vL (s:Txt):(ZA s=none)<->VJ (zG s)=false:=by
 unfold ZA VJ G7
 cases hw:zG s with
 | nil=>simp
 | cons w ws =>
  simp only
  by_cases h1:w.head?=some 35
  ·simp[h1]
  ·rw[if_neg h1]
   simp only[h1,decide_false,Bool.false_or]
   unfold zph jI
   grind
def zcX:List Txt->Option Nat
 | []=>none
 | s::r=>if VJ (zG s)=true then(zcX r).map (·+1) else some 1
theorem zbv:∀(l:List Txt) (i:Nat),(∀n,zcX l=some n->yF i l=.error (i+n))/\(zcX l=none->∃cs,yF i l=.ok cs)
 | [],i=>⟨fun n h=>(by cases h),fun _=>⟨[],rfl⟩⟩
 | s::r,i=>by
  obtain⟨ih1,ih2⟩:=zbv r (i+1)
  unfold zcX
  cases hg:VJ (zG s)with
  | false =>
   have hn:=(vL s).2 hg
   simp_all[yF]
  | true =>
   have hn:ZA s≠none:=fun e=>by simp_all[vL]
   simp only[if_true]
   obtain⟨x,hx⟩:=Option.ne_none_iff_exists'.1 hn
   refine⟨fun n h=>?_,fun h=>?_⟩
   ·obtain⟨m,hm,rfl⟩:=Option.map_eq_some_iff.1 h
    grind [yF]
   ·have h':zcX r=none:=by
     simp_all
    obtain⟨cs,hcs⟩:=ih2 h'
    rw[yF,hx]
    grind
def DG (t:Txt):Int × Int:=if 65536<t.length\/400<(qU t).length then(6,0) else match zcX (qU t)with
 | some n=>(3,n)
 | none=>(0,0)
theorem zeC (t:Txt):(∃cs,zL t=.ok cs/\DG t=(0,0))\/∃e n,zL t=.error (e,n)/\DG t=(e,(n:Int))/\e≠0:=by
 unfold zL DG
 by_cases h:65536<t.length\/400<(qU t).length
 ·rw[if_pos h,if_pos h];grind
 rw[if_neg h,if_neg h]
 obtain⟨h1,h2⟩:=zbv (qU t) 0
 cases hb:zcX (qU t)with
 | none =>
  obtain⟨cs,hcs⟩:=h2 hb
  simp_all
 | some n =>
  grind
def yM (kn:List KnV) (p:Txt) (s:StV):StV × KnV :=
 if p∉s.asked/\s.asked.length=500 then(QD 6 s,kn0)
 else
  let s1:StV:=if p∈s.asked then s else { s with asked:=s.asked++[p] }
  match j3 kn p with
  | some k=>(s1,k)
  | none=>({ s1 with stop:=⟨1,p,[],0⟩ },kn0)
def JB (rec:Txt->StV->List Txt->StV × List Txt) (w:Txt):List Txt->StV->List Txt->StV × List Txt
 | [],s,d=>(s,d)
 | x::r,s,d=>if s.stop.kind≠0 then(s,d) else match zG x with
  | [a,q]=>if a≠w\/w5 q=false then JB rec w r (yZ (x++[10]) s) d
   else if q∈d then JB rec w r s d
   else JB rec w r (rec q s d).1 (rec q s d).2
  | _=>JB rec w r (yZ (x++[10]) s) d
def zdB (kn:List KnV) (w:Txt):Nat->Txt->StV->List Txt->StV × List Txt
 | 0,_,s,d=>(s,d)
 | n+1,p,s,d =>
  let s1:=(yM kn p s).1
  let k:=(yM kn p s).2
  if s1.stop.kind≠0 then(s1,d++[p])
  else if k.is=false then(QD 10 s1,d++[p])
  else JB (zdB kn w n) w (qU k.data) s1 (d++[p])
structure zas (s:StV) (d:List Txt):Prop where
 stop:s.stop=do0
 nod:d.Nodup
 sub:∀p∈d,p∈s.asked
 len:s.asked.length<=500
theorem zas.dlen {s:StV} {d:List Txt} (h:zas s d):d.length<=500 :=
 Nat.le_trans (List.Nodup.length_le_of_subset h.nod h.sub) h.len
theorem zkB (env:List (Txt × Txt)) (kn:List KnV) (p:Txt) (co:CoV) (c:CfV) (h0:c.st.stop.kind=0) (hl:c.st.asked.length<=500) :
  (∃k,yM kn p c.st=(if p∈c.st.asked then c.st else { c.st with asked:=c.st.asked++[p] },k)/\j3 kn p=some k/\(yM kn p c.st).1.stop=c.st.stop/\p∈(yM kn p c.st).1.asked/\(∀q∈c.st.asked,q∈(yM kn p c.st).1.asked)/\(yM kn p c.st).1.asked.length<=500/\
   QA env kn (GD p co c) (coS co k { c with st:=(yM kn p c.st).1 }))\/
  ((yM kn p c.st).1.stop.kind≠0/\∃td',QA env kn (GD p co c) ⟨td',(yM kn p c.st).1,c.done⟩):=by
 unfold yM GD
 by_cases hin:p∈c.st.asked
 ·simp only[hin,if_true,not_true,false_and,if_false]
  cases hf:j3 kn p with
  | some k =>
   left
   refine⟨k,rfl,rfl,rfl,hin,fun q h=>h,hl,?_⟩
   refine .step h0 ?_
   simp only[JJ,hf]
   exact .refl _
  | none =>
   right
   refine⟨by simp,c.td,?_⟩
   refine .step h0 ?_
   simp only[JJ,hf]
   exact .refl _
 ·simp only[hin,if_false,not_false_iff,true_and]
  by_cases h5:c.st.asked.length=500
  ·simp only[h5,if_true,Nat.le_refl]
   exact .inr ⟨by simp[QD],c.td,.refl _⟩
  ·have h5':¬500<=c.st.asked.length:=by omega
   simp only[h5,h5',if_false]
   cases hf:j3 kn p with
   | some k =>
    left
    refine⟨k,rfl,rfl,rfl,by simp,fun q h=>by simp[h],by simp;omega,?_⟩
    refine .step h0 ?_
    simp only[JJ,hf]
    exact .refl _
   | none =>
    right
    refine⟨by simp,c.td,?_⟩
    refine .step h0 ?_
    simp only[JJ,hf]
    exact .refl _
theorem zkj {t:Txt} {s:StV} {d:List Txt} (h:zas s d):(yZ t s).asked=s.asked/\((yZ t s).stop.kind=0->zas (yZ t s) d):=by
 unfold yZ
 split
 ·simp[QD]
 ·exact⟨rfl,fun _=>⟨h.stop,h.nod,h.sub,h.len⟩⟩
structure zmq (env:List (Txt × Txt)) (kn:List KnV) (c:CfV) (td:List TdV) (d:List Txt) (r:StV × List Txt):Prop where
 pre:d <+: r.2
 go:r.1.stop.kind=0->zas r.1 r.2/\QA env kn c ⟨td,r.1,r.2⟩
 stop:r.1.stop.kind≠0->∃td' d',QA env kn c ⟨td',r.1,d'⟩
theorem UI {env:List (Txt × Txt)} {kn:List KnV} {w:Txt} {n:Nat} (rec:Txt->StV->List Txt->StV × List Txt)
  (hrec:∀(p:Txt) (s:StV) (d:List Txt) (td:List TdV),zas s d->p∉d->501-d.length<=n->zmq env kn (zaW p w ⟨td,s,d⟩) td (d++[p]) (rec p s d)) :
  ∀(l:List Txt) (s:StV) (d:List Txt) (td:List TdV),zas s d->501-d.length<=n->zmq env kn ⟨(l.map fun x=>.line x w)++td,s,d⟩ td d (JB rec w l s d)
 | [],s,d,td,hi,hn=>⟨List.prefix_refl _,fun _=>⟨hi,by simpa[JB]using .refl _⟩,fun h=>by simp[JB,hi.stop,do0]at h⟩
 | x::r,s,d,td,hi,hn=>by
  have hk0:s.stop.kind=0:=by rw[hi.stop];rfl
  have h0:¬s.stop.kind≠0:=by simp[hk0]
  have hstep:∀c',DJ x w ⟨(r.map fun x=>.line x w)++td,s,d⟩=c'->QA env kn ⟨((x::r).map fun x=>.line x w)++td,s,d⟩ c':=fun c' e=>by
   subst e
   exact .step hk0 (.refl _)
    -- a line is added
  have hadd:DJ x w ⟨(r.map fun x=>.line x w)++td,s,d⟩=⟨(r.map fun x=>.line x w)++td,yZ (x++[10]) s,d⟩->zmq env kn ⟨((x::r).map fun x=>.line x w)++td,s,d⟩ td d (JB rec w r (yZ (x++[10]) s) d):=by
   intro e
   have hr:=hstep _ e
   by_cases hk:(yZ (x++[10]) s).stop.kind=0
   ·have ih:=UI rec hrec r _ d td ((zkj hi).2 hk) hn
    exact⟨ih.pre,fun h=>⟨(ih.go h).1,hr.trans (ih.go h).2⟩,fun h=>by obtain⟨td',d',h1⟩:=ih.stop h;exact⟨td',d',hr.trans h1⟩⟩
   ·have hv:JB rec w r (yZ (x++[10]) s) d=(yZ (x++[10]) s,d):=by
     cases r with
     | nil=>rfl
     | cons y r=>rw[JB,if_pos hk]
    rw[hv]
    exact⟨List.prefix_refl _,fun h=>absurd h hk,fun _=>⟨_,_,hr⟩⟩
  rw[JB,if_neg h0]
  unfold DJ at hadd hstep
  generalize zG x=ws at hadd hstep |-
  rcases ws with _|⟨a,_|⟨q,_|⟨z,l⟩⟩⟩
  ·exact hadd rfl
  ·exact hadd rfl
  ·simp only at hadd hstep |-
   by_cases h1:a≠w\/w5 q=false
   ·rw[if_pos h1];exact hadd (if_pos h1)
   rw[if_neg h1]at hstep |-
   by_cases h2:q∈d
   ·rw[if_pos h2]at hstep |-
    have hr:=hstep _ rfl
    have ih:=UI rec hrec r s d td hi hn
    exact⟨ih.pre,fun h=>⟨(ih.go h).1,hr.trans (ih.go h).2⟩,fun h=>by obtain⟨td',d',h1⟩:=ih.stop h;exact⟨td',d',hr.trans h1⟩⟩
   ·rw[if_neg h2]at hstep |-
    have hr:=hstep _ rfl
    have hs:=hrec q s d ((r.map fun x=>.line x w)++td) hi h2 hn
    have hpl:=hs.pre.length_le
    simp only[List.length_append,List.length_cons,List.length_nil]at hpl
    have hpd:d <+: (rec q s d).2:=(List.prefix_append d [q]).trans hs.pre
    by_cases hk:(rec q s d).1.stop.kind=0
    ·obtain⟨g1,g2⟩:=hs.go hk
     have ih:=UI rec hrec r (rec q s d).1 (rec q s d).2 td g1 (by omega)
     exact⟨hpd.trans ih.pre,fun h=>⟨(ih.go h).1,hr.trans (g2.trans (ih.go h).2)⟩,fun h=>by obtain⟨td',d',h1⟩:=ih.stop h;exact⟨td',d',hr.trans (g2.trans h1)⟩⟩
    ·obtain⟨td',d',g1⟩:=hs.stop hk
     have hv:JB rec w r (rec q s d).1 (rec q s d).2=((rec q s d).1,(rec q s d).2):=by
      cases r with
      | nil=>rfl
      | cons y r=>rw[JB,if_pos hk]
     rw[hv]
     exact⟨hpd,fun h=>absurd h hk,fun _=>⟨td',d',hr.trans g1⟩⟩
  ·exact hadd rfl
theorem zdZ {env:List (Txt × Txt)} {kn:List KnV} {w:Txt}:∀(n:Nat) (p:Txt) (s:StV) (d:List Txt) (td:List TdV),zas s d->p∉d->501-d.length<=n->zmq env kn (zaW p w ⟨td,s,d⟩) td (d++[p]) (zdB kn w n p s d)
 | 0,p,s,d,td,hi,hp,hn=>by have:=hi.dlen;omega
 | n+1,p,s,d,td,hi,hp,hn=>by
  have hk0:s.stop.kind=0:=by rw[hi.stop];rfl
  have ha:=zkB env kn p (.there (.scan w)) ⟨td,s,d++[p]⟩ hk0 hi.len
  have hsc:zaW p w ⟨td,s,d⟩=GD p (.there (.scan w)) ⟨td,s,d++[p]⟩:=rfl
  rw[hsc]
  rw[zdB]
  rcases ha with⟨k,h1,h2,h3,h4,h5,h6,h7⟩|⟨h1,td',h2⟩
  ·simp only at h1 h3 h4 h5 h6 h7
   have hk:(yM kn p s).2=k:=by rw[h1]
   have hst:¬(yM kn p s).1.stop.kind≠0:=by simp_all
   rw[if_neg hst,hk]
   have hi2:zas (yM kn p s).1 (d++[p]):=by
    refine⟨h3.trans hi.stop,?_,?_,h6⟩
    ·refine List.nodup_append.2 ⟨hi.nod,by simp,fun a ha c hc=>?_⟩
     grind
    ·intro q hq
     rcases List.mem_append.1 hq with hq|hq
     ·exact h5 q (hi.sub q hq)
     simp_all
   cases his:k.is with
   | false =>
    rw[if_pos rfl]
    refine⟨List.prefix_refl _,fun e=>by grind [QD],fun _=>⟨td,d++[p],?_⟩⟩
    simp_all[coS,CfV.map]
   | true =>
    rw[if_neg (by decide)]
    have:coS (.there (.scan w)) k ⟨td,(yM kn p s).1,d++[p]⟩=⟨((qU k.data).map fun x=>.line x w)++td,(yM kn p s).1,d++[p]⟩:=by
     grind [coS,thS]
    rw[this]at h7
    have ih:=UI (env:=env) (kn:=kn) (w:=w) (n:=n) (zdB kn w n) (fun p s d td a b c=>zdZ n p s d td a b c) (qU k.data) (yM kn p s).1 (d++[p]) td hi2 (by grind)
    exact⟨ih.pre,fun h=>⟨(ih.go h).1,h7.trans (ih.go h).2⟩,fun h=>by obtain⟨td',d',h1⟩:=ih.stop h;exact⟨td',d',h7.trans h1⟩⟩
  ·simp only at h1 h2
   rw[if_pos h1]
   exact⟨List.prefix_refl _,fun e=>absurd e h1,fun _=>⟨td',d++[p],h2⟩⟩
def ccR (r:qG):Nat:=r.todo.countP isC
structure Ef (b:Bool) (r r':qG):Prop where
 en:r'.env=r.env
 cc:ccR r'=ccR r
 ov:r'.over=r.over\/(r'.over.kind=4/\r'.over.why≠0)\/(b=true/\r'.over.kind=2/\r'.over.why=0)
 wo:r.waits=false->r'.waits=true->r'.over=r.over
theorem Ef.refl {b:Bool} (r:qG):Ef b r r:=⟨rfl,rfl,.inl rfl,fun _ _=>rfl⟩
theorem Ef.same {b:Bool} {r r':qG} (h1:r'.env=r.env) (h2:r'.todo=r.todo) (h3:r'.over=r.over):Ef b r r':=⟨h1,by grind [ccR],.inl h3,fun _ _=>h3⟩
theorem Ef.fail {b:Bool} (e:Int) (r:qG) (he:e≠0:=by decide):Ef b r (w6 e r):=⟨rfl,rfl,.inr (.inl ⟨rfl,he⟩),fun h1 h2=>by simp_all[w6]⟩
theorem Ef.add {b:Bool} (t:Txt) (r:qG):Ef b r (y6 t r):=by
 unfold y6
 split
 ·simp[fail]
 simp[same]
theorem Ef.lines {b:Bool} (t:List Txt) (r:qG):Ef b r (kH t r):=by
 have h:=Ef.add (b:=b) (t.flatMap (·++[10])) { r with buf:=[] }
 exact⟨h.en,h.cc,h.ov,h.wo⟩
theorem zhF (w:Txt) (l:List Txt):(l.map fun s=>TdV.line s w).countP isC=0:=by
 simp[isC]
theorem Ef.co {b:Bool} (k:CoV) (x:KnV) (r:qG):Ef b r (coR k x r):=by
 cases hx:x.is with
 | false =>
  cases k with
  | tr=>simp_all[coR,refl]
  | there t=>grind [coR,fail]
 | true =>
  cases k with
  | tr=>grind [coR,add]
  | there t=>cases t with
   | add=>grind [coR,add,thR]
   | scan w =>
    rw[show coR (.there (.scan w)) x r={ r with todo:=r.todo++(qU x.data).reverse.map fun s=>.line s w } by simp[coR,hx,thR]]
    exact⟨rfl,by have:=zhF w (qU x.data).reverse;simp_all[ccR],.inl rfl,fun _ _=>rfl⟩
theorem Ef.ask {b:Bool} (p:Txt) (k:CoV) (r:qG):Ef b r (yN p k r):=by
 unfold yN
 split
 ·simp[co]
 ·split
  ·simp[fail]
  ·exact⟨rfl,by simp[ccR,isC],.inl rfl,fun _ _=>rfl⟩
theorem Ef.scan {b:Bool} (p w:Txt) (r:qG):Ef b r (ZD p w r):=by
 have h:=Ef.ask (b:=b) p (.there (.scan w)) { r with seen:=r.seen++[p] }
 exact⟨h.en,h.cc,h.ov,h.wo⟩
theorem Ef.line {b:Bool} (s w:Txt) (r:qG):Ef b r (QP s w r):=by
 grind [QP,add,refl,scan]
theorem Ef.turn {b:Bool} (n a:Txt) (r:qG):Ef b r (kX n a r):=by
 unfold kX
 split
 ·simp[lines]
 split
 ·simp[lines]
 split
 ·simp[same]
 split
 ·simp[same]
 grind [lines,refl]
theorem Ef.cmd (c:CmdV) (r:qG):Ef true r (doR c r):=by
 unfold doR
 simp only
 split
 ·simp[ask]
 split
 ·simp[ask]
 split
 ·have h:=Ef.scan (b:=true) (c.words.getD 1 []) (c.words.getD 2 []) { r with seen:=[] }
  exact⟨h.en,h.cc,h.ov,h.wo⟩
 split
 ·simp[add]
 split
 ·grind [add,fail]
 split
 ·exact⟨rfl,rfl,.inr (.inr ⟨rfl,rfl,rfl⟩),fun h1 h2=>by simp_all⟩
 grind [refl,fail,turn]
structure zho (r r':qG):Prop where
 en:r'.env=r.env
 cc:ccR r'<=ccR r
 ov:r'.over=r.over\/r'.over=⟨3,[],[],0⟩\/(r'.over.kind=4/\r'.over.why≠0)\/(r'.over.kind=2/\r'.over.why=0/\ccR r'<ccR r)
 wo:r.waits=false->r'.waits=true->r'.over=r.over
theorem zgA (r:qG):zho r (yX r):=by
 rcases List.eq_nil_or_concat r.todo with ht|⟨l,t,ht⟩
 ·rw[W7 ht]
  exact⟨rfl,Nat.le_refl _,.inr (.inl rfl),fun h1 h2=>by simp_all⟩
 ·rw[List.concat_eq_append]at ht
  rw[W9 ht]
  have hc:ccR r=ccR { r with todo:=l }+if isC t=true then 1 else 0:=by
   simp_all[ccR]
  have go:∀ {r':qG},Ef false { r with todo:=l } r'->zho r r':=fun h=>by
   refine⟨h.en,by rw[h.cc];omega,?_,h.wo⟩
   rcases h.ov with h|h|⟨h,_⟩
   ·exact .inl h
   ·omega
   ·cases h
  cases t with
  | cmd c =>
   have h:=Ef.cmd c { r with todo:=l }
   have hc':ccR r=ccR { r with todo:=l }+1:=hc
   refine⟨h.en,?_,?_,h.wo⟩
   ·have:=h.cc;simp_all[tdR]
   ·rcases h.ov with h1|h1|⟨_,h1,h9⟩
    ·exact .inl h1
    ·exact .inr (.inr (.inl h1))
    ·refine .inr (.inr (.inr ⟨h1,h9,?_⟩))
     have:=h.cc;simp_all[tdR]
  | line s w=>exact go (.line _ _ _)
  | ans k p=>exact go (.co _ _ _)
def OV (r:qG):Prop:=(r.over=do0\/(r.over.kind=2/\r.over.why=0)\/r.over=⟨3,[],[],0⟩\/(r.over.kind=4/\r.over.why≠0))/\(r.waits=true->r.over=do0)
theorem OV.zero {r:qG} (h:OV r) (h0:r.over.kind=0):r.over=do0:=by
 rcases h.1 with h|⟨h,_⟩|h|⟨h,_⟩
 ·exact h
 ·omega
 ·simp_all
 omega
theorem zho.ovk {r r':qG} (h:zho r r') (h0:OV r) (hk:r.over.kind=0) (hw:r.waits=false):OV r':=by
 have hd:=h0.zero hk
 refine⟨?_,fun e=>(h.wo hw e).trans hd⟩
 rcases h.ov with h1|h1|h1|⟨h1,h9,_⟩
 ·simp_all
 ·simp_all
 ·omega
 omega
theorem zbW {r:qG} (h:¬kE r=true):r.over.kind=0/\r.waits=false:=by
 simp_all[kE]
theorem zbE (env:List (Txt × Txt)) {kn:List KnV} (wr:List DoV):∀(n:Nat) {r r':qG},runN n r=some r'->JN r->OV r->r.env=env->r.known <+: kn->
  QA env kn (jV wr r) (jV wr r')/\OV r'/\r'.env=env/\ccR r'<=ccR r/\(r.over.kind=0->r'.over.kind=2->ccR r'<ccR r)
 | 0,r,r',h,_,_,_,_=>by cases h
 | n+1,r,r',h,hi,ho,he,hk=>by
  rw[runN]at h
  by_cases hs:kE r=true
  ·rw[if_pos hs]at h
   cases h
   exact⟨.refl _,ho,he,Nat.le_refl _,fun h1 h2=>by omega⟩
  ·rw[if_neg hs]at h
   obtain⟨h0,hw⟩:=zbW hs
   have hse:=zgA r
   have hst:=pD hi (by simp_all)
   obtain⟨g1,g2,g3,g4,g5⟩:=zbE env wr n h hst.1 (hse.ovk ho h0 hw) (hse.en.trans he) (by rw[hst.2.2];exact hk)
   refine⟨(zhw env wr hi he hk hw (ho.zero h0)).trans g1,g2,g3,Nat.le_trans g4 hse.cc,fun _ h2=>?_⟩
   have stuck:(yX r).over.kind≠0->r'=yX r:=fun h1=>by
    have hst2:kE (yX r)=true:=by simp[kE,h1]
    cases n with
    | zero=>cases h
    | succ n=>simp_all[runN]
   rcases hse.ov with h1|h1|⟨h1,_⟩|⟨h1,_,h3⟩
   ·exact Nat.lt_of_lt_of_le (g5 (by simp_all) h2) hse.cc
   ·simp_all
   ·simp_all
   ·omega
theorem P3 {r:qG} (h:kE r=true):k9 r=r:=by
 simp_all[k9,runN]
structure AtR (env:List (Txt × Txt)) (c0:CfV) (kn:List KnV) (wr:List DoV) (r:qG):Prop where
 inv:JN r
 ov:OV r
 en:r.env=env
 kno:r.known=kn
 runs:∀kn',kn <+: kn'->QA env kn' c0 (jV wr r)
theorem AtR.settle {env:List (Txt × Txt)} {c0:CfV} {kn:List KnV} {wr:List DoV} {r:qG} (h:AtR env c0 kn wr r):AtR env c0 kn wr (k9 r)/\ccR (k9 r)<=ccR r/\(r.over.kind=0->(k9 r).over.kind=2->ccR (k9 r)<ccR r):=by
 obtain⟨h1,h2,h3,h4⟩:=y9 h.inv
 have hr:=fun kn' (hk:kn <+: kn')=>zbE env wr _ h1 h.inv h.ov h.en (kn:=kn') (by rw[h.kno];exact hk)
 obtain⟨_,g2,g3,g4,g5⟩:=hr kn (List.prefix_refl _)
 exact⟨⟨h2,g2,g3,h4.trans h.kno,fun kn' hk=>(h.runs kn' hk).trans (hr kn' hk).1⟩,g4,g5⟩
structure JP (env:List (Txt × Txt)) (c0:CfV) (kn:List KnV) (wr:List DoV) (r:qG) (d:DoV):Prop where
 at_:AtR env c0 kn wr r
 stops:kE r=true
 no2:r.over.kind≠2
 waits:d.kind=1<->r.waits=true
 asks:r.waits=true->d=⟨1,r.asks,[],0⟩
 over:r.waits=false->d=r.over
 ref:∃c,QA env kn c0 c/\c.st.stop=d/\c.st.stop.kind≠0/\c.st.wrote=wr
theorem AtR.next {env:List (Txt × Txt)} {c0:CfV} {kn:List KnV} {wr:List DoV} {r:qG} (h:AtR env c0 kn wr r) (h0:r.over.kind≠2) :
  ((kN r).1.kind=2/\AtR env c0 kn (wr++[(kN r).1]) (kN r).2/\ccR (kN r).2<ccR r/\(kN r).2.over.kind=0)\/JP env c0 kn wr (kN r).2 (kN r).1:=by
 obtain⟨hs,hc,hc2⟩:=h.settle
 have hst:=(y9 h.inv).2.2.1
 obtain⟨s,hse⟩:∃s,s=k9 r:=⟨_,rfl⟩
 have hn:kN r=(if s.waits=true then(⟨1,s.asks,[],0⟩,s) else(s.over,if s.over.kind=2 then { s with over:=do0 } else s)):=by rw[hse];rfl
 have hr0:s.over.kind=2->r.over.kind=0:=fun h2=>by
  apply Classical.byContradiction
  grind [kE,P3]
 rw[<-hse]at hs hc hc2 hst
 rw[hn]
 by_cases hw:s.waits=true
 ·rw[if_pos hw]
  have ho:=hs.ov.2 hw
  rcases hs.inv with⟨_,h2⟩|⟨l,k,p,e,h2,h3,h4,_⟩
  ·simp_all
  ·obtain⟨g1,g2,g3⟩:=h4 hw
   refine .inr ⟨hs,hst,by rw[ho];decide,by simp[hw],fun _=>rfl,fun e=>(by simp_all),?_⟩
   have htd:(jV wr s).td=.ans k p::l.reverse:=by simp[jV,e]
   have hso:(jV wr s).st.stop=do0:=by simp[jV,ho,do0]
   refine⟨_,(hs.runs kn (List.prefix_refl _)).trans (.step (by rw[hso];rfl) (.refl _)),?_⟩
   have hf:j3 kn p=none:=by rw[<-hs.kno];exact g2
   simp_all[JJ,CfV.map,jV,do0]
 ·rw[if_neg hw]
  have hw':s.waits=false:=by simp_all
  have hk0:s.over.kind≠0:=by
   simp_all[kE]
  by_cases h2:s.over.kind=2
  ·rw[if_pos h2]
   refine .inl ⟨h2,⟨?_,⟨.inl rfl,fun _=>rfl⟩,hs.en,hs.kno,fun kn' hk=>?_⟩,hc2 (hr0 h2) h2,rfl⟩
   ·exact hs.inv.of_same rfl rfl rfl rfl rfl rfl
   ·have:=hs.runs kn' hk
    simp_all[jV,do0]
  ·rw[if_neg h2]
   refine .inr ⟨hs,hst,h2,?_,fun e=>absurd e hw,fun _=>rfl,jV wr s,hs.runs kn (List.prefix_refl _),by simp[jV,h2],by simp_all[jV],by simp[jV,h2]⟩
   constructor
   ·intro e1
    rcases hs.ov.1 with h|⟨h,_⟩|h|⟨h,_⟩
    ·rw[h]at e1;cases e1
    ·omega
    ·simp_all
    simp_all
   simp_all
theorem JP.give {env:List (Txt × Txt)} {c0:CfV} {kn:List KnV} {wr:List DoV} {r:qG} {d:DoV} (h:JP env c0 kn wr r d) (k:KnV) (hw:r.waits=true) (hp:k.path=r.asks) (hd:k.is=true->k.data.length<=65536) :
  (Z2 k r).1=0/\AtR env c0 (kn++[k]) wr (Z2 k r).2/\(Z2 k r).2.over.kind=0/\ccR (Z2 k r).2=ccR r:=by
 have hi:=zb9 h.at_.inv k (fun h=>by grind)
 have ho:=h.at_.ov.2 hw
 have hg:Z2 k r=(0,{ r with known:=r.known++[k],asks:=[],waits:=false }):=by
  unfold Z2
  simp only[P3 h.stops]
  simp_all
 rw[hg]at hi |-
 refine⟨rfl,⟨hi,⟨.inl ho,fun e=>by cases e⟩,h.at_.en,by simp only[h.at_.kno],fun kn' hk=>?_⟩,by simp only[ho];rfl,rfl⟩
 have:=h.at_.runs kn' ((List.prefix_append kn [k]).trans hk)
 simp_all[jV]
end
end Go.Proofs.YtdkieabmeiojjaaGreatDoor
