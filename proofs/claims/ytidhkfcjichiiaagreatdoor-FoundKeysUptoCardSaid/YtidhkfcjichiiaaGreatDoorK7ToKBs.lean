/- A tool that goes on: what is still to be done, as closures. No condition beyond each theorem's own. -/
import Derived.Test.YtidhkfcjichiiaaGreatDoorP18ToK4b
import Derived.Test.YtidhkfcjichiiaaGreatDoorP8ToJK0
import Derived.Test.YtidhkfcjichiiaaGreatDoorP0ToP7
set_option linter.unusedSimpArgs false
set_option linter.unusedVariables false
set_option linter.unusedSectionVars false
section
set_option maxRecDepth 100000
namespace Go.Proofs.YtidhkfcjichiiaaGreatDoor
open Go Go.Ab
open Classical
variable [Sel] [SelPow] [SelMax]
noncomputable def zF (p:Txt):HObj:=.var .str (.s p)
noncomputable def yE (v:AV):HObj:=.var .func v
noncomputable def JU (Q:Nat):HObj:=.var YR (.map (some Q))

def zcq (R:Nat) (q:Option Nat) (S:q8):ThV→AV→Prop
 | .add,v=>v=.bm 114 [.ptr R kQ []]
 | .scan w,v=>∃Q br bw bs,q=some Q∧v=.fn 169 [.ptr br .ptr [],.ptr bw .str [],.ptr bs YR []]∧(br,zA R)∈S∧(bw,zF w)∈S∧(bs,JU Q)∈S
def UX (R:Nat) (q:Option Nat) (S:q8):CoV→AV→Prop
 | .there t,v=>∃br bt tv,v=.fn 168 [.ptr br .ptr [],.ptr bt .func []]∧(br,zA R)∈S∧(bt,yE tv)∈S∧zcq R q S t tv
 | .tr,v=>∃br,v=.fn 115 [.ptr br .ptr []]∧(br,zA R)∈S
def pM (R:Nat) (q:Option Nat) (S:q8):TdV→AV→Prop
 | .cmd c,v=>∃br bc,v=.fn 60 [.ptr br .ptr [],.ptr bc QE []]∧(br,zA R)∈S∧(bc,kJ c)∈S
 | .ans k p,v=>∃bt br bp kv,v=.fn 167 [.ptr bt .func [],.ptr br .ptr [],.ptr bp .str []]∧(bt,yE kv)∈S∧(br,zA R)∈S∧(bp,zF p)∈S∧UX R q S k kv
 | .line s w,v=>∃Q bs bw br bm,q=some Q∧v=.fn 171 [.ptr bs .str [],.ptr bw .str [],.ptr br .ptr [],.ptr bm YR []]∧bs≠bw∧(bs,zF s)∈S∧(bw,zF w)∈S∧(br,zA R)∈S∧(bm,JU Q)∈S
theorem zcq.mono {R:Nat} {q:Option Nat} {S S':q8} (h:∀x∈S,x∈S'):∀ {t:ThV} {v:AV},zcq R q S t v→zcq R q S' t v
 | .add,_,e=>e
 | .scan _,_,⟨Q,br,bw,bs,e0,e,h1,h2,h3⟩=>⟨Q,br,bw,bs,e0,e,h _ h1,h _ h2,h _ h3⟩
theorem UX.mono {R:Nat} {q:Option Nat} {S S':q8} (h:∀x∈S,x∈S'):∀ {t:CoV} {v:AV},UX R q S t v→UX R q S' t v
 | .there _,_,⟨br,bt,tv,e,h1,h2,h3⟩=>⟨br,bt,tv,e,h _ h1,h _ h2,h3.mono h⟩
 | .tr,_,⟨br,e,h1⟩=>⟨br,e,h _ h1⟩
theorem pM.mono {R:Nat} {q:Option Nat} {S S':q8} (h:∀x∈S,x∈S'):∀ {t:TdV} {v:AV},pM R q S t v→pM R q S' t v
 | .cmd _,_,⟨br,bc,e,h1,h2⟩=>⟨br,bc,e,h _ h1,h _ h2⟩
 | .ans _ _,_,⟨bt,br,bp,kv,e,h1,h2,h3,h4⟩=>⟨bt,br,bp,kv,e,h _ h1,h _ h2,h _ h3,h4.mono h⟩
 | .line _ _,_,⟨Q,bs,bw,br,bm,e0,e,hn,h1,h2,h3,h4⟩=>⟨Q,bs,bw,br,bm,e0,e,hn,h _ h1,h _ h2,h _ h3,h _ h4⟩
theorem zcq.er {R:Nat} {q:Option Nat} {S:q8} {t:ThV} {v:AV} (h:zcq R q S t v):v.er=v∧v.erk=v:=by
 cases t with
 | add=>rw[show v=_ from h];exact⟨rfl,rfl⟩
 | scan w=>obtain⟨_,_,_,_,_,rfl,_⟩:=h;exact⟨rfl,rfl⟩
theorem UX.er {R:Nat} {q:Option Nat} {S:q8} {t:CoV} {v:AV} (h:UX R q S t v):v.er=v∧v.erk=v:=by
 cases t with
 | there t=>obtain⟨_,_,_,rfl,_⟩:=h;exact⟨rfl,rfl⟩
 | tr=>obtain⟨_,rfl,_⟩:=h;exact⟨rfl,rfl⟩
theorem pM.erk {R:Nat} {q:Option Nat} {S:q8} {t:TdV} {v:AV} (h:pM R q S t v):v.erk=v:=by
 cases t with
 | cmd c=>obtain⟨_,_,rfl,_⟩:=h;rfl
 | ans k p=>obtain⟨_,_,_,_,rfl,_⟩:=h;rfl
 | line s w=>obtain⟨_,_,_,_,_,_,rfl,_⟩:=h;rfl
inductive yN (R:Nat) (q:Option Nat) (S:q8):List TdV→List AV→Prop
 | nil:yN R q S [] []
 | cons {t v ts vs}:pM R q S t v→yN R q S ts vs→yN R q S (t::ts) (v::vs)
theorem yN.mono {R:Nat} {q:Option Nat} {S S':q8} (h:∀x∈S,x∈S') {ts:List TdV} {vs:List AV} (hh:yN R q S ts vs):yN R q S' ts vs:=by
 induction hh with
 | nil=>exact .nil
 | cons a _ ih=>exact .cons (a.mono h) ih
theorem yN.len {R:Nat} {q:Option Nat} {S:q8} {ts:List TdV} {vs:List AV} (hh:yN R q S ts vs):ts.length=vs.length:=by
 induction hh with
 | nil=>rfl
 | cons _ _ ih=>simp[ih]
theorem yN.app {R:Nat} {q:Option Nat} {S:q8} {ts us:List TdV} {vs ws:List AV} (h1:yN R q S ts vs) (h2:yN R q S us ws):yN R q S (ts++us) (vs++ws):=by
 induction h1 with
 | nil=>exact h2
 | cons a _ ih=>exact .cons a ih
theorem yN.snoc {R:Nat} {q:Option Nat} {S:q8}:∀ {ts:List TdV} {t:TdV} {vs:List AV},yN R q S (ts++[t]) vs→∃us v,vs=us++[v]∧yN R q S ts us∧pM R q S t v
 | [],t,vs,h=>by
  cases h with
  | cons a b=>cases b;exact⟨[],_,rfl,.nil,a⟩
 | x::ts,t,vs,h=>by
  cases h with
  | cons a b =>
   obtain⟨us,v,rfl,h1,h2⟩:=yN.snoc b
   exact⟨_::us,v,rfl,.cons a h1,h2⟩
theorem yN.jk {R:Nat} {q:Option Nat} {S:q8} {ts:List TdV} {vs:List AV} (hh:yN R q S ts vs):JK vs:=by
 unfold JK
 induction hh with
 | nil=>rfl
 | cons a _ ih=>rw[AV.erks_eq]at *;simp[a.erk,ih]
def zaQ (fs:List AV) (ta:AV) (TA:q8):Prop:=(fs=[]∧ta=.nsl∧TA=[])∨∃T cap j,JK j∧ta=.msl T 1 0 fs.length cap∧fs.length+j.length=cap∧TA=[(T,.var (.arr cap 1) (.agg (fs++j)))]
def zi4 (q:Option Nat) (l:List Txt) (QH:q8):Prop:=(q=none∧QH=[])∨∃Q,q=some Q∧QH=[(Q,.map 9 4 (QY l))]
structure zY where
 K:Nat
 q:Option Nat
 QH:q8
 TA:q8
 S:q8
 fs:List AV
 ta:AV
noncomputable def zY.core (p:zY) (R:Nat) (r:RunV):q8:=(R,qW p.ta (zS r.env) r.buf p.K r.asks r.waits r.over)::(p.K,.map 9 57 (knE r.known))::(p.TA++(p.QH++p.S))
structure zY.OK (p:zY) (R:Nat) (r:RunV):Prop where
 todo:zaQ p.fs p.ta p.TA
 seen:zi4 p.q r.seen p.QH
 box:p.S.er=p.S
 tds:yN R p.q p.S r.todo p.fs
def z6 (R:Nat) (r:RunV) (H:q8):Prop:=∃p:zY,p.OK R r∧H=p.core R r
theorem zaQ.er {R:Nat} {q:Option Nat} {S:q8} {ts:List TdV} {fs:List AV} {ta:AV} {TA:q8} (h:zaQ fs ta TA) (h2:yN R q S ts fs):TA.er=TA∧ta.erk=ta:=by
 rcases h with⟨rfl,rfl,rfl⟩|⟨T,cap,j,hj,rfl,hc,rfl⟩
 ·exact⟨rfl,rfl⟩
 ·have:=h2.jk.app hj
  refine⟨?_,rfl⟩
  simp only[q8.er_cons,q8.er_nil,HObj.er_var,AV.erk]
  rw[show AV.erks (fs++j)=fs++j from this]
theorem zi4.er {q:Option Nat} {l:List Txt} {QH:q8} (h:zi4 q l QH):QH.er=QH:=by
 rcases h with⟨_,rfl⟩|⟨Q,_,rfl⟩
 ·rfl
 ·simp[q8.er_cons,HObj.er_map,QY,AV.er,Function.comp_def]
theorem zV (l:List (Txt × Txt)):(zS l).erk=zS l:=by simp[zS,AV.erk,AV.ers_eq,Z7,Function.comp_def,AV.er,AV.ers]
theorem zhD (l:List KnV):(HObj.map 9 57 (knE l)).er=.map 9 57 (knE l):=by
 simp[HObj.er_map,knE,zH,AV.er,AV.ers,Function.comp_def]
theorem z6.er {R:Nat} {r:RunV} {H:q8} (h:z6 R r H):H.er=H:=by
 obtain⟨p,hp,rfl⟩:=h
 obtain⟨e1,e2⟩:=hp.todo.er hp.tds
 have e3:=ZA (buf:=r.buf) (K:=p.K) (asks:=r.asks) (waits:=r.waits) (over:=r.over) e2 (zV r.env)
 simp only[zY.core,q8.er_cons,q8.er_app,e1,hp.seen.er,hp.box,e3,zhD]
theorem GZ {a:Nat × HObj} {H:q8} (h:a∈H):∃r,H.Perm (a::r):=by
 obtain⟨l1,l2,rfl⟩:=List.append_of_mem h
 exact⟨l1++l2,List.perm_middle⟩
theorem zk9 {a b:Nat × HObj} {H:q8} (h1:a∈H) (h2:b∈H) (hn:a.1≠b.1):∃r,H.Perm (a::b::r):=by
 obtain⟨r,hr⟩:=GZ h1
 have hb:b∈r:=by
  rcases List.mem_cons.1 (hr.mem_iff.1 h2)with e|h
  ·exact absurd (congrArg Prod.fst e).symm hn
  ·exact h
 obtain⟨r',hr'⟩:=GZ hb
 exact⟨r',hr.trans (List.Perm.cons _ hr')⟩
theorem znf {a b c:Nat × HObj} {H:q8} (h1:a∈H) (h2:b∈H) (h3:c∈H) (n1:a.1≠b.1) (n2:a.1≠c.1) (n3:b.1≠c.1):∃r,H.Perm (a::b::c::r):=by
 obtain⟨r,hr⟩:=GZ h1
 have mem:∀ {x},x∈H→a.1≠x.1→x∈r:=fun {x} hx hn=>by
  rcases List.mem_cons.1 (hr.mem_iff.1 hx)with e|h
  ·exact absurd (congrArg Prod.fst e).symm hn
  ·exact h
 obtain⟨r',hr'⟩:=zk9 (mem h2 n1) (mem h3 n2) n3
 exact⟨r',hr.trans (List.Perm.cons _ hr')⟩
theorem Y4 {H:q8} (hn:H.keys.Nodup) {a b:Nat × HObj} (h1:a∈H) (h2:b∈H) (ho:a.2≠b.2):a.1≠b.1:=by
 intro e
 obtain⟨r,hr⟩:=GZ h1
 have hb:b∈r:=by
  rcases List.mem_cons.1 (hr.mem_iff.1 h2)with e'|h
  ·exact absurd (congrArg Prod.snd e').symm ho
  ·exact h
 have hnd:((a::r).map (·.1)).Nodup:=(hr.map _).nodup_iff.1 hn
 rw[List.map_cons,List.nodup_cons]at hnd
 exact hnd.1 (e▸List.mem_map.2 ⟨b,hb,rfl⟩)
theorem WW {H:q8}:H.er=H↔∀x∈H,x.2.er=x.2:=by
 induction H with
 | nil=>simp
 | cons a r ih =>
  obtain⟨b,o⟩:=a
  rw[q8.er_cons]
  constructor
  ·intro h x hx
   have h1:=(List.cons.inj h)
   rcases List.mem_cons.1 hx with rfl|hx
   ·exact congrArg Prod.snd h1.1
   ·exact ih.1 h1.2 x hx
  ·intro h
   rw[ih.2 fun x hx=>h x (List.mem_cons_of_mem _ hx),show o.er=o from h (b,o) (by simp)]
theorem VD {H H':q8} (hp:H.Perm H') (h:H.er=H):H'.er=H':=WW.2 fun x hx=>WW.1 h x (hp.mem_iff.2 hx)
theorem zY.memS {p:zY} {R:Nat} {r:RunV} {x:Nat × HObj} (h:x∈p.S):x∈p.core R r:=by
 unfold zY.core
 exact List.mem_cons_of_mem _ (List.mem_cons_of_mem _ (List.mem_append_right _ (List.mem_append_right _ h)))
theorem ze1 (R:Nat) (e:Int) {r:RunV} {H:q8} (h:z6 R r H):q7 Tryz.prog 119 [.av .ptr (.ptr R kQ []),.av (.int .i64) (.i .i64 e)] H fun x H'=>x=.tup []∧z6 R (wC e r) H':=by
 obtain⟨p,hp,rfl⟩:=h
 obtain⟨_,e2⟩:=hp.todo.er hp.tds
 refine q7.use (Hs:=[(R,qW p.ta (zS r.env) r.buf p.K r.asks r.waits r.over)]) (rest:=(p.K,.map 9 57 (knE r.known))::(p.TA++(p.QH++p.S))) (List.Perm.refl _) (zg8 R e _ _ _ _ _ _ _ e2 (zV r.env)) ?_
 rintro x H' ⟨rfl,rfl⟩ _
 exact⟨_,HSub.refl _,rfl,p,⟨hp.todo,hp.seen,hp.box,hp.tds⟩,rfl⟩
theorem zjg (R:Nat) (s:Txt) {r:RunV} {H:q8} (h:z6 R r H) (hb:r.buf.length≤1000000000) (hs:s.length≤1000000000000000):q7 Tryz.prog 114 [.av .ptr (.ptr R kQ []),.av .str (.s s)] H fun x H'=>x=.tup []∧z6 R (wW s r) H':=by
 obtain⟨p,hp,rfl⟩:=h
 obtain⟨_,e2⟩:=hp.todo.er hp.tds
 refine q7.use (Hs:=[(R,qW p.ta (zS r.env) r.buf p.K r.asks r.waits r.over)]) (rest:=(p.K,.map 9 57 (knE r.known))::(p.TA++(p.QH++p.S))) (List.Perm.refl _) (ziH R s _ _ _ _ _ _ _ e2 (zV r.env) hb hs) ?_
 rintro x H' ⟨rfl,rfl⟩ _
 refine⟨_,HSub.refl _,rfl,p,?_,?_⟩
 ·unfold wW
  split<;>exact⟨hp.todo,hp.seen,hp.box,hp.tds⟩
 ·unfold wW zY.core
  split<;>rfl
@[simp] theorem zlY:qZ Tryz.prog 168=true:=by kernel_rfl
@[simp] theorem zpP:z8 Tryz.prog (.func 168)=false:=q9 zlY
@[simp] theorem zlM:qZ Tryz.prog 115=true:=by kernel_rfl
@[simp] theorem zr3:z8 Tryz.prog (.func 115)=false:=q9 zlM
@[simp] theorem zmw:qZ Tryz.prog 167=true:=by kernel_rfl
@[simp] theorem zpV:z8 Tryz.prog (.func 167)=false:=q9 zmw
@[simp] theorem zlj:qZ Tryz.prog 169=true:=by kernel_rfl
@[simp] theorem zq8:z8 Tryz.prog (.func 169)=false:=q9 zlj
@[simp] theorem zzN:qZ Tryz.prog 171=true:=by kernel_rfl
@[simp] theorem zAE:z8 Tryz.prog (.func 171)=false:=q9 zzN
@[simp] theorem zny:qZ Tryz.prog 60=true:=by kernel_rfl
@[simp] theorem zrp:z8 Tryz.prog (.func 60)=false:=q9 zny
theorem zoK (R br:Nat) (x:KnV) {r:RunV} {p:zY} (hp:p.OK R r) (hbr:(br,zA R)∈p.S) (hb:r.buf.length≤1000000000) (hx:x.is=true→x.data.length≤1000000000) :
  q7 Tryz.prog 115 [.av (qD Tryz.prog 57) (zH x),.av .ptr (.ptr br .ptr [])] (p.core R r) fun y H'=>y=.tup []∧z6 R (coR .tr x r) H':=by
 have hH:z6 R r (p.core R r):=⟨p,hp,rfl⟩
 have her:=hH.er
 obtain⟨H,hHe⟩:∃H,H=p.core R r:=⟨_,rfl⟩
 have hm:(br,zA R)∈H:=hHe▸zY.memS hbr
 rw[←hHe]at hH her ⊢
 obtain⟨rest,hpm⟩:=GZ hm
 have hre:=VD hpm her
 refine q7.sub (R:=fun y H'=>y=.tup []∧∃H2,Ab.HSub H2 H'∧z6 R (coR .tr x r) H2) ?_ fun y H' ⟨h1,H2,h2,h3⟩ _=>⟨H2,h2,h1,h3⟩
 refine q7.perm hpm ?_
 rw[q8.er_cons]at hre
 have hre2:=(List.cons.inj hre).2
 refine q7.of_vc laid mixed Tryz.func115 rfl cf0 (by kernel_rfl) (by simp[Tryz.ntmps115]) fun imm0 w0=>?_
 (simp (disch:=first|omega|assumption) [zz,-List.reduceReplicate,zH])
 cases hxi:x.is
 ·(simp (disch:=first|omega|assumption) [zz,-List.reduceReplicate,hxi])
  (simp (disch:=first|omega|assumption) [zz,-List.reduceReplicate,Tryz.f115,hre2,coR,hxi])
  exact⟨H,HSub.of_perm hpm.symm,hH⟩
 ·(simp (disch:=first|omega|assumption) [zz,-List.reduceReplicate,hxi,zA])
  refine qE (R:=fun y H'=>y=.tup []∧z6 R (wW x.data r) H') H [] (by simpa[zA]using hpm.symm) rfl (by simp[qQ]) (by simp) ?_ ?_
  ·rw[her]
   simpa[TV.er,AV.er]using zjg R x.data hH hb (by have:=hx hxi;omega)
  rintro y H' ⟨rfl,hh⟩ _
  refine⟨H',by simpa using HSub.refl _,?_⟩
  have hhe:=hh.er
  (simp (disch:=first|omega|assumption) [zz,-List.reduceReplicate,Tryz.f115,hhe,coR,hxi])
  exact⟨H',HSub.refl _,hh⟩
theorem AT.absE {c:Ctx} {code:Code} {K:Exit→St→Prop} {s:St} (Q:(Nat→TV)→Prop) (h0:Q s.env) (h:∀E,Q E→AT c code K { s with env:=E }):AT c code K s:=h s.env h0
theorem zeS {P:Program} {l:Nat} {args:List TV} {H:q8} {R R':TV→q8→Prop} (h:YC P l args H R) (hr:∀r H',R r H'→H'.keys.Nodup→∃H'':q8,Ab.HSub H'' H'∧R' r H''):YC P l args H R':=by
 intro imm w vs h1 h2
 obtain⟨f,tmps,as',bo,h3,h4⟩:=h imm w vs h1 h2
 refine⟨f,tmps,as',bo,h3,RoundIn.mono h4 ?_⟩
 rintro e w' ⟨v,r,imm',H',a,b,c,d,st⟩
 obtain⟨H'',hs,hR⟩:=hr _ _ b d.nodup
 exact⟨v,r,imm',H'',a,hR,c,⟨d.imm,hs.nodup d.nodup,fun b o ho=>d.obj b o (hs.subset ho),d.tab⟩,⟨st.os,st.tape,st.output,st.size,st.frame,st.imm,st.kept,fun b hb=>st.dom b (hs.keys hb),st.drawn⟩⟩
theorem zfP {P:Program} {l:Nat} {args:List TV} {H H1:q8} {R:TV→q8→Prop} (hp:H1.Perm H) (h:YC P l args H R):YC P l args H1 R:=by
 intro imm w vs hrep h2
 have hr:Rep P (g0 imm) w H:=⟨hrep.imm,(hp.map _).nodup_iff.1 hrep.nodup,fun b o ho=>hrep.obj b o (hp.mem_iff.2 ho),hrep.tab⟩
 obtain⟨f,tmps,as',bo,h3,h4⟩:=h imm w vs hr h2
 refine⟨f,tmps,as',bo,h3,RoundIn.mono h4 ?_⟩
 rintro e w' ⟨v,r,imm',H',a,b,c,d,st⟩
 exact⟨v,r,imm',H',a,b,c,d,st.keys fun b=>((hp.map (·.1)).mem_iff).symm⟩
theorem ze0 {P:Program} {l:Nat} {args:List TV} {H:q8} {R:TV→q8→Prop} (h:H.keys.Nodup→YC P l args H R):YC P l args H R :=
 fun imm w vs h1 h2=>h h1.nodup imm w vs h1 h2
@[simp] theorem zlf:qZ Tryz.prog 170=true:=by kernel_rfl
@[simp] theorem zqe:z8 Tryz.prog (.func 170)=false:=q9 zlf
@[simp] theorem zAh:qZ Tryz.prog 212=true:=by kernel_rfl
@[simp] theorem zB0:z8 Tryz.prog (.func 212)=false:=q9 zAh
abbrev zel:TyD:=.slice 9
noncomputable def bsO (l:List Txt):HObj:=.var zel (.sl .no (strs l))
theorem zjc (l:List Txt):(bsO l).er=bsO l:=by simp[bsO,HObj.er_var,AV.erk]
abbrev zsc:Cfg:=⟨fun n=>n==1,fun _=>false⟩
theorem zji (l:List Txt):q7 Tryz.prog 170 [.av zel (.sl .no (strs l))] [] fun r H'=>∃c,r=.av .func (.fn 212 [.ptr c zel []])∧H'=[(c,bsO l)]:=by
 refine q7.of_vc laid mixed Tryz.func170 rfl zsc (by kernel_rfl) (by simp[Tryz.ntmps170]) fun imm0 w0=>?_
 (simp (disch:=first|omega|assumption) [zz,-List.reduceReplicate])
 intro c
 (simp (disch:=first|omega|assumption) [zz,-List.reduceReplicate,Tryz.f170,bsO,AV.ers])
set_option maxHeartbeats 4000000 in
theorem zhr {G:Nat→q8→Prop} (y c:Nat) (l:List Txt) (hl:l.length≤1000000000) (hGe:∀k H,G k H→H.er=H)
  (hY:∀k (hk:k<l.length) H,G k H→YC Tryz.prog y [.av (.int .i64) (.i .i64 (l.length-1-k:Nat)),.av .str (.s (l[l.length-1-k]'(by omega)))] H fun r H'=>r=.av .bool (.b true)∧G (k+1) H') :
  ∀H,G 0 H→q7 Tryz.prog 212 [.av .func (.yl y),.av .ptr (.ptr c zel [])] ((c,bsO l)::H)
   fun r H'=>r=.tup []∧∃H1,G l.length H1∧H'=(c,bsO l)::H1:=by
 intro H hG
 have hbe:=zjc l
 have hsl:∀x:List Txt,(strs x).length=x.length:=fun x=>by simp[strs]
 refine q7.of_vc laid mixed Tryz.func212 rfl cf0 (by kernel_rfl) (by simp[Tryz.ntmps212]) fun imm0 w0=>?_
 (simp (disch:=first|omega|assumption) [zz,-List.reduceReplicate,bsO,hsl])
 refine AT.loop' (α:=Nat × q8) (fun p=>St.of [(0,.av .func (.yl y)),(1,.av .ptr (.ptr c zel [])),(3,.av (.int .i64) (.i .i64 ((l.length:Int)-1-p.1)))] [] (fun _=>0) ((c,bsO l)::p.2))
  (fun p=>p.1≤l.length∧G p.1 p.2) (fun p=>l.length-p.1) (0,H) ?_ ?_ ?_
 ·refine Le.of ?_ ?_ ?_ ?_ ?_<;>simp[qU,qG,bsO]<;>try omega
 ·exact⟨by omega,hG⟩
 rintro⟨k,H1⟩ ⟨hk,hG1⟩ KL hN hE
 simp only at hk hG1 hN
 refine qM (cf:=cf0) laid mixed _ _ _ (by kernel_rfl) ?_
 by_cases hlt:k<l.length
 ·obtain⟨i,hi⟩:∃i:Nat,i=l.length-1-k:=⟨_,rfl⟩
  have hii:(l.length:Int)-1-k=i:=by omega
  have hil:i<l.length:=by omega
  have hgi:(strs l)[i]?=some (.s l[i]):=by simp[strs,List.getElem?_eq_getElem hil]
  rw[hii]
  have hge:(0:Int)≤i:=by omega
  (simp (disch:=first|omega|assumption) [zz,-List.reduceReplicate,hge,bsO,hgi,hsl,hil])
  refine JY (R:=fun r H'=>r=.av .bool (.b true)∧G (k+1) H') H1 [(c,bsO l)] (List.perm_append_comm (l₁:=[_])) (by simp[qQ]) ?_ ?_
  ·rw[hGe _ _ hG1]
   have:=hY k hlt _ hG1
   simpa[TV.er,←hi]using this
  rintro r H2 ⟨rfl,hG2⟩ _
  refine⟨(c,bsO l)::H2,HSub.of_perm (List.perm_append_comm (l₂:=[_])),?_⟩
  (simp (disch:=first|omega|assumption) [zz,-List.reduceReplicate])
  refine hN _ (k+1,H2) ?_ ⟨by omega,hG2⟩ (by simp only;omega)
  refine Le.of ?_ ?_ ?_ ?_ ?_<;>simp[qU,qG,bsO]<;>try omega
 ·have hge:(l.length:Int)-1-k=-1:=by omega
  rw[hge]
  (simp (disch:=first|omega|assumption) [zz,-List.reduceReplicate])
  refine hE _ _ (by simp) ?_
  have hkl:k=l.length:=by omega
  subst hkl
  have hH:=hGe _ _ hG1
  (simp (disch:=first|omega|assumption) [zz,-List.reduceReplicate,Tryz.f212,hH,hbe])
  exact⟨hG1,by first|rfl|simp[bsO]⟩
end Go.Proofs.YtidhkfcjichiiaaGreatDoor
end
