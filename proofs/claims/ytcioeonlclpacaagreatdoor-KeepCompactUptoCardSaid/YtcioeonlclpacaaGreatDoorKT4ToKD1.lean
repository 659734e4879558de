/- The sort of texts. No condition beyond each theorem's own. -/
import Derived.Test.YtcioeonlclpacaaGreatDoorP8ToE4a
import Derived.Test.YtcioeonlclpacaaGreatDoorShelf5
import Derived.Test.YtcioeonlclpacaaGreatDoorP1ToP7
set_option linter.unusedSimpArgs false
set_option linter.unusedVariables false
set_option linter.unusedSectionVars false
section
set_option maxRecDepth 100000
namespace Go.Proofs.YtcioeonlclpacaaGreatDoor
open Go Go.Ab
open Classical
variable [Sel]
open Go.Sort (grow mapBlock putCells putRow ahead Holds onCells)
@[simp] theorem zkn:qZ Tryz.prog 166=true:=by kernel_rfl
@[simp] theorem zpS:z8 Tryz.prog (.func 166)=false:=q9 zkn
theorem zai {P:Program} {g:Gh} {w:World} {e:TypeId}:∀ {xs ys:List AV} {c:List Value},VL P g w e (xs++ys) c→∃c1 c2,c=c1++c2∧VL P g w e xs c1∧VL P g w e ys c2
 | [],ys,c,h=>⟨[],c,rfl,by simp[VL],h⟩
 | x::xs,ys,c,h=>by
  simp only[List.cons_append,VL]at h
  obtain⟨a,r,rfl,h1,h2⟩:=h
  obtain⟨c1,c2,rfl,h3,h4⟩:=zai h2
  exact⟨a++c1,c2,by simp,by simp only[VL];exact⟨a,c1,rfl,h1,h3⟩,h4⟩
theorem gS {w:World} {b:Nat} {cs:Array Value} {E:TypeId} {fz:Nat × Nat} (hb:w.heap[b]?=some (.cells cs E fz)) (f:Array Value→Array Value):mapBlock w b f=w.setRow b (f cs):=by
 have hlt:=(Array.getElem?_eq_some_iff.1 hb).1
 unfold mapBlock World.setRow
 congr 1
 apply Array.ext_getElem?
 intro k
 simp only[Array.getElem?_modify]
 by_cases hk:b=k
 ·subst hk
  simp[hb,onCells]
 ·simp[hk]
theorem zE.grow2 {c:Ctx} {s:St} {a:Act} {w:World} {g:Gh} {β:Nat→Nat} (h:zE c s a w g β):∀(l:List Obj),zE c s a (Go.Sort.grow w l.toArray) g β:=by
 intro l
 induction l generalizing w with
 | nil=>simpa using h
 | cons o l ih =>
  have h1:=h.push o 0 (by omega)
  have eg:({ g with imm:=upd g.imm w.heap.size 0 }:Gh)=g:=by
   have:upd g.imm w.heap.size 0=g.imm:=by
    funext b;simp only[upd];split
    ·rename_i e;rw[e,QC h.rep.imm (Nat.le_refl _)]
    ·rfl
   rw[this]
  rw[eg]at h1
  have h2:=ih h1
  have e2:Go.Sort.grow (World.push' w o) l.toArray=Go.Sort.grow w (o::l).toArray:=by
   unfold Go.Sort.grow World.push'
   simp only[World.mk.injEq,and_true]
   apply Array.toList_inj.1
   simp only[Array.toList_append,Array.toList_push,List.append_assoc,List.cons_append,List.nil_append]
  rw[e2]at h2
  exact h2
abbrev enS:List UInt8→Value:=fun l=>Value.string ⟨l.toArray⟩
theorem zbo {P:Program} {g:Gh} {w:World} {e:TypeId} (he:qD P e=.str):∀(d:List Txt) (c:List Value),VL P g w e (strs d) c↔c=d.map enS
 | [],c=>by simp[strs,VL]
 | b::d,c=>by
  have ih:=zbo (g:=g) (w:=w) he d
  simp only[strs,List.map_cons,VL]at ih ⊢
  constructor
  ·rintro⟨c1,c2,rfl,h1,h2⟩
   rw[he]at h1
   simp only[VC]at h1
   rw[h1.2,(ih c2).1 h2];rfl
  ·rintro rfl
   exact⟨[_],_,rfl,by rw[he];simp[VC],(ih _).2 rfl⟩
theorem D6 (F:Array (List UInt8)) (cs:Array Value) (h:F.size≤cs.size):(putCells enS 0 F cs).toList=F.toList.map enS++cs.toList.drop F.size:=by
 apply List.ext_getElem?
 intro t
 simp only[putCells,Array.getElem?_toList,Array.getElem?_mapIdx]
 by_cases ht:t<F.size
 ·rw[List.getElem?_append_left (by simpa using ht),Array.getElem?_eq_getElem (by omega),Option.map_some,if_pos ⟨Nat.zero_le _,by omega⟩]
  rw[List.getElem?_map,Array.getElem?_toList,Array.getElem?_eq_getElem ht]
  simp[getElem!_pos F t ht]
 ·rw[List.getElem?_append_right (by simp;omega),List.getElem?_drop]
  have e1:F.size+(t-(F.toList.map enS).length)=t:=by simp;omega
  rw[e1,Array.getElem?_toList]
  cases hc:cs[t]? with
  | none=>rfl
  | some y=>rw[Option.map_some,if_neg (by omega)]
theorem ZO (l:List Txt):(kK l).length=l.length:=by unfold kK;exact List.length_mergeSort _
theorem zaG (ts:List Txt) (b cap:Nat) (j:List AV) (hcap:ts.length+j.length=cap) (hn:ts.length≤1000000000) :
  q7 Tryz.prog 166 [.av (.slice 9) (.msl b 9 0 ts.length cap)] [(b,.var (.arr cap 9) (.agg (strs ts++j)))]
   fun r H'=>r=.tup []∧H'=[(b,.var (.arr cap 9) (.agg (strs (kK ts)++j)))]:=by
 intro imm w vs hrep hargs
 obtain⟨vs⟩:=vs
 match vs,hargs with
 | [v1],⟨h1,_⟩ =>
  obtain⟨f1,h1⟩:=h1
  simp only[VC]at h1
  obtain⟨_,h1⟩:=h1
  rw[qR rfl f1,Nat.zero_mul]at h1
  have e1:v1=.slice (some ⟨b,0,none⟩) ts.length cap:=by simpa using h1
  subst e1
  obtain⟨h0,cs,hcs,hvc⟩:=hrep.obj b (.var (.arr cap 9) (.agg (strs ts++j))) (by simp)
  obtain⟨E,fz,hb,hfz⟩:=x4 hcs (by rw[ty9];simp)
  simp only[VC]at hvc
  obtain⟨hm,hvl⟩:=hvc
  obtain⟨c1,c2,hcc,hv1,hv2⟩:=zai hvl
  have hst:=ty9
  rw[zbo hst]at hv1
  subst hv1
  have hle:ts.length≤cs.size:=by
   rw[←Array.length_toList,hcc];simp
  have hlt:b<w.heap.size:=(Array.getElem?_eq_some_iff.1 hb).1
  have hH:Holds enS w b 0 ts.toArray:=by
   intro t ht
   rw[Nat.zero_add]
   have ht':t<ts.length:=by simpa using ht
   refine⟨?_,?_⟩
   ·rw[KG hb]
    have e3:cs[t]?=cs.toList[t]?:=by simp
    rw[e3,hcc,List.getElem?_append_left (by simpa using ht'),List.getElem?_map,List.getElem?_eq_getElem ht',getElem!_pos _ t ht]
    rfl
   ·simp only[World.frozen?,hb,Bool.and_eq_false_iff,decide_eq_false_iff_not]
    omega
  have hcall:=Tryz.slices_Sort_string b 0 cap ts w hH hlt (by omega)
  refine Calls.mono hcall ?_
  rintro e w' ⟨rfl,n,os,rfl⟩
  have hS:zE ⟨Tryz.prog,0,imm,[(b,.var (.arr cap 9) (.agg (strs ts++j)))],w,none⟩ { env:=fun _=>.junk,loc:=fun _=>none,ver:=fun _=>0,H:=[(b,.var (.arr cap 9) (.agg (strs ts++j)))] } { tmps:=#[],defers:=[] } w (g0 imm) (fun _=>0):={
   defers:=⟨rfl,List.nodup_nil,fun D hD=>by simp at hD⟩
   size:=rfl
   env:=fun t=>trivial
   locs:=fun k d x e=>by simp at e
   inj:=fun k j e=>by simp at e
   rep:=hrep
   toks:=fun k t e=>by simp[g0]at e
   tokd:=fun k k' t t' e=>by simp[g0]at e
   toknew:=fun k v _=>rfl
   step:=JI.refl }
  have hsl:=ZO ts
  have hsz:(kK ts).toArray.size=ts.length:=by simpa using hsl
  have hS1:=hS.drew (w.drawn+n) (Nat.le_add_right _ _)
  have hS2:=hS1.setH (b:=b) (d:=.arr cap 9) (x:=.agg (strs ts++j)) (y:=.agg (strs (kK ts)++j)) (cs:=putCells enS 0 (kK ts).toArray cs) (by simp[jM]) hcs (by simp[putCells]) (by
   rw[D6 _ _ (by rw[hsz];exact hle),hsz,hcc]
   have e4:(ts.map enS++c2).drop ts.length=c2:=by
    rw[List.drop_append,List.drop_of_length_le (by simp)];simp
   rw[e4]
   simp only[VC]
   refine⟨by rw[List.length_append,qX,hsl];exact hcap,wE ((zbo hst _ _).2 rfl) (ZU (w':={ w with drawn:=w.drawn+n }) (Gh.le_refl _) hrep.imm (fun b cs E fz _ hb=>⟨cs,E,fz,hb,rfl,fun _ _=>rfl⟩) _ _ _ hv2)⟩)
  have hS3:=zE.grow2 hS2 os.toList
  have ew:Go.Sort.grow (World.setRow { w with drawn:=w.drawn+n } b (putCells enS 0 (kK ts).toArray cs)) os.toList.toArray=grow (putRow enS (Go.Sort.ahead w n) b 0 (kK ts).toArray) os:=by
   unfold putRow
   rw[gS (w:=Go.Sort.ahead w n) (b:=b) (cs:=cs) (E:=E) (fz:=fz) hb]
   simp[Go.Sort.ahead]
  rw[ew]at hS3
  have eh:W1 [(b,HObj.var (.arr cap 9) (.agg (strs ts++j)))] b (.var (.arr cap 9) (.agg (strs (kK ts)++j)))=[(b,.var (.arr cap 9) (.agg (strs (kK ts)++j)))]:=by simp[W1]
  refine⟨.tuple #[],.tup [],imm,[(b,.var (.arr cap 9) (.agg (strs (kK ts)++j)))],rfl,⟨rfl,rfl⟩,⟨[],rfl,trivial⟩,?_,?_⟩
  ·have:=hS3.rep
   simp only[eh]at this
   exact this
  ·have:=hS3.step
   simp only[eh]at this
   exact this
theorem dQ:q7 Tryz.prog 166 [.av (.slice 9) (.sl .no [])] [] fun r H'=>r=.tup []∧H'=[]:=by
 intro imm w vs hrep hargs
 obtain⟨vs⟩:=vs
 match vs,hargs with
 | [v1],⟨h1,_⟩ =>
  obtain⟨f1,h1⟩:=h1
  simp only[VC]at h1
  obtain⟨e,a,cap,_,h1,_⟩:=h1
  rw[qR rfl f1]at h1
  have e1:v1=.slice a 0 cap:=by simpa using h1
  subst e1
  refine Calls.mono (Tryz.slices_Sort_string_none a cap w) ?_
  rintro e w' ⟨rfl,rfl⟩
  exact⟨.tuple #[],.tup [],imm,[],rfl,⟨rfl,rfl⟩,⟨[],rfl,trivial⟩,hrep,JI.refl⟩
end Go.Proofs.YtcioeonlclpacaaGreatDoor
end
section
set_option maxRecDepth 100000
namespace Go.Proofs.YtcioeonlclpacaaGreatDoor
open Go Go.Ab
open Classical
variable [Sel]
theorem q7.argNsl {P:Program} {f:FuncId} {e:TypeId} {args:List TV} {H:q8} {R:TV→q8→Prop} (h:q7 P f (.av (.slice e) (.sl .no [])::args) H R):q7 P f (.av (.slice e) .nsl::args) H R:=by
 intro imm w vs h1 h2
 refine h imm w vs h1 ?_
 obtain⟨vs⟩:=vs
 match vs,h2 with
 | v::r,⟨⟨f1,hv⟩,e2⟩ =>
  simp only[VC]at hv
  obtain⟨_,_,hv⟩:=hv
  exact⟨⟨f1,by simp only[VC];exact⟨e,none,0,rfl,hv,by simp,by simp[U9]⟩⟩,e2⟩
theorem zgp (l:List Txt):JK (strs l):=by
 unfold JK;simp[AV.erks_eq,strs,Function.comp_def,AV.er,AV.erk]
theorem zmZ (n:Nat):JK (List.replicate n (AV.s [])):=JK.rep rfl _
@[simp] theorem zRR:qZ Tryz.prog 191=true:=by kernel_rfl
@[simp] theorem zTa:z8 Tryz.prog (.func 191)=false:=q9 zRR
@[simp] theorem zmU:qZ Tryz.prog 165=true:=by kernel_rfl
@[simp] theorem zqN:z8 Tryz.prog (.func 165)=false:=q9 zmU
abbrev TxS:TyD:=.slice 9
def wG (y b2:Nat) (done:List Txt) (H:q8):Prop :=
 (done=[]∧H=[(b2,.var TxS .nsl)])∨∃b cap j,JK j∧b≠b2∧b≠y∧done.length+j.length=cap∧H=[(b2,.var TxS (.msl b 9 0 done.length cap)),(b,wY cap done j)]
def wR (ks:List Txt) (rest:q8) (r:TV) (H':q8):Prop :=
 ∃done,done.Perm ks∧((done=[]∧r=.av TxS .nsl∧H'=rest)∨∃b cap j,JK j∧done.length+j.length=cap∧r=.av TxS (.msl b 9 0 done.length cap)∧H'=(b,wY cap done j)::rest)
theorem zpj {y b2:Nat} {done:List Txt} {H:q8} (h:wG y b2 done H):H.er=H:=by
 rcases h with⟨_,rfl⟩|⟨b,cap,j,hj,_,_,_,rfl⟩
 ·rfl
 ·rw[q8.er_cons,q8.er_cons,KE hj];rfl
def zzE (g c:Nat) (T:TyD) (HS:q8) (ks:List Txt):Prop:=qZ Tryz.prog g=true∧HS.er=HS∧∀(G:List Txt→q8→Prop) (y:Nat),(∀done H,G done H→H.er=H)→
  (∀done (k:Txt) H,done.length<ks.length→G done H→YC Tryz.prog y [.av .str (.s k)] H fun r H'=>r=.av .bool (.b true)∧G (done++[k]) H')→
  ∀H,G [] H→q7 Tryz.prog g [.av .func (.yl y),.av .ptr (.ptr c T [])] (HS++H) fun r H'=>r=.tup []∧∃done H1,done.Perm ks∧G done H1∧H'=HS++H1
abbrev znx:Cfg:=⟨fun n=>n==2,fun _=>false⟩
set_option maxHeartbeats 8000000 in
theorem CB {g c:Nat} {T:TyD} {HS:q8} {ks:List Txt} (hs:zzE g c T HS ks) (hlen:ks.length≤1000000) :
  q7 Tryz.prog 191 [.av TxS .nsl,.av .func (.fn g [.ptr c T []])] HS (wR ks HS):=by
 obtain⟨hfo,hse,hsf⟩:=hs
 refine q7.sub (R:=fun r H'=>∃H2,Ab.HSub H2 H'∧wR ks HS r H2) ?_ fun r H' ⟨H2,h1,h2⟩ _=>⟨H2,h1,h2⟩
 refine zov Tryz.func191 znx fun imm0 w0=>?_
 simp (disch:=omega) [zz]
 intro b2 hb2
 refine AT.range (gf:=g) rfl rfl rfl (by simp[hfo]) ?_
 intro y D r i0 w1 hy hrec hready hpend hpar has hbo
 simp at hy
 obtain⟨hy2,hyS⟩:=hy
 have hy2':¬b2=y:=fun e=>hy2 e.symm
 refine⟨HS++[(y,.lrec r i0 w1),(b2,.var TxS .nsl)],[],fun t H'=>t=.tup []∧∃done H1,done.Perm ks∧(∃H2,H1=(y,.lrec r i0 w1)::H2∧wG y b2 done H2)∧H'=HS++H1,?_,?_,?_⟩
 ·rw[List.append_nil]
  exact List.perm_append_comm (l₁:=[_,_])
 ·rw[q8.er_app,hse]
  refine hsf (fun done H=>∃H2,H=(y,.lrec r i0 w1)::H2∧wG y b2 done H2) y ?_ ?_ _ ⟨_,rfl,.inl ⟨rfl,rfl⟩⟩
  ·rintro done H ⟨H2,rfl,hg⟩
   rw[q8.er_cons,zpj hg];rfl
  ·rintro done k H hdl ⟨H2,rfl,hg⟩
   have hrd:=YC.of_round (l:=y) hrec hready (args:=[.av .str (.s k)]) (H:=H2) (R:=fun rr H'=>rr=.av .bool (.b true)∧∃H3,Ab.HSub ((y,.lrec r i0 w1)::H3) H'∧wG y b2 (done++[k]) H3) (by rw[hpar];rfl) (by rw[hpar];simp) (fun imm w=>?_)
   ·exact zeS hrd fun rr H' ⟨e1,H3,e2,e3⟩ _=>⟨_,e2,e1,H3,rfl,e3⟩
   rw[has,hbo,hpar]
   refine qM (cf:=znx) laid mixed _ _ _ (by kernel_rfl) ?_
   simp (disch:=omega) [zz,QW,yL,vS]
   refine qM (cf:=znx) laid mixed _ _ _ (by kernel_rfl) ?_
   have hrl:∀(p:Array Nat) (a b:Code),p=r.params→a=r.assign→b=r.body→({ state:=.ready,pending:=none,fn:=r.fn,tmps:=r.tmps,params:=p,assign:=a,body:=b,defers:=r.defers }:Loop)=r:=by
    rintro _ _ _ rfl rfl rfl;exact u7 hready hpend
   have her:∀r',(HObj.lrec r' i0 w1).er=HObj.lrec r' i0 w1:=fun _=>rfl
   rcases hg with⟨rfl,rfl⟩|⟨b,cap,j,hj,hbb,hby,hcap,rfl⟩
   ·simp (disch:=omega) [zz,hy2,hy2']
    intro b' cap' hb1 hb2 hc
    have hb1':¬y=b':=fun e=>hb1 e.symm
    have hb2':¬b2=b':=fun e=>hb2 e.symm
    simp (disch:=omega) [zz,hy2,hy2',hb1,hb2,hb1',hb2',WR,uV]
    rw[her,hrl _ _ _ hpar.symm has.symm hbo.symm]
    refine⟨[(b2,.var TxS (.msl b' 9 0 1 cap')),(b',wY cap' [k] (List.replicate (cap'-1) (AV.s [])))],HSub.of_perm ?_,.inr ⟨b',cap',_,JK.rep rfl _,hb2,hb1,by simp;omega,rfl⟩⟩
    have:=zmZ (cap'-1)
    unfold JK at this
    rw[this]
    exact List.perm_append_comm (l₁:=[_]) (l₂:=[_,_])
   ·have hbb':¬b2=b:=fun e=>hbb e.symm
    have hby':¬y=b:=fun e=>hby e.symm
    simp (disch:=omega) [zz,hy2,hy2',hbb,hbb',hby,hby',wY]
    refine⟨by omega,⟨by omega,by omega⟩,fun hc=>?_,fun hc b' cap' hb1 hb2 hb3 hc'=>?_⟩
    ·simp (disch:=omega) [zz,hy2,hy2',hbb,hbb',hby,hby',WR,uV]
     rw[her,hrl _ _ _ hpar.symm has.symm hbo.symm]
     have h2:(strs done++j).take done.length++AV.s k::(strs done++j).drop (done.length+1)=strs (done++[k])++j.drop 1:=by
      have e1:(strs done++j).take done.length=strs done:=by rw[List.take_append_of_le_length (by simp)];exact List.take_of_length_le (by simp)
      have e2:(strs done++j).drop (done.length+1)=j.drop 1:=by
       rw[List.drop_append,List.drop_of_length_le (by simp)];simp
      rw[e1,e2];simp only[Z6,List.append_assoc];rfl
     have h3:=(zgp (done++[k])).app (hj.drop 1)
     unfold JK at h3
     rw[h2,h3]
     refine⟨[(b2,.var TxS (.msl b 9 0 (done.length+1) cap)),(b,wY cap (done++[k]) (j.drop 1))],HSub.refl _,.inr ⟨b,cap,_,hj.drop 1,hbb,hby,by simp;omega,by simp⟩⟩
    ·have hb1':¬y=b':=fun e=>hb1 e.symm
     have hb2':¬b2=b':=fun e=>hb2 e.symm
     have hb3':¬b=b':=fun e=>hb3 e.symm
     simp (disch:=omega) [zz,hy2,hy2',hbb,hbb',hby,hby',hb1,hb2,hb3,hb1',hb2',hb3',WR,uV]
     rw[her,hrl _ _ _ hpar.symm has.symm hbo.symm]
     have h2:(strs done++j).take done.length++AV.s k::List.replicate (cap'-(done.length+1)) (AV.s [])=strs (done++[k])++List.replicate (cap'-(done.length+1)) (AV.s []):=by
      have e1:(strs done++j).take done.length=strs done:=by rw[List.take_append_of_le_length (by simp)];exact List.take_of_length_le (by simp)
      rw[e1];simp only[Z6,List.append_assoc];rfl
     have h3:=(zgp (done++[k])).app (zmZ (cap'-(done.length+1)))
     unfold JK at h3
     rw[h2,h3]
     refine⟨[(b2,.var TxS (.msl b' 9 0 (done.length+1) cap')),(b',wY cap' (done++[k]) (List.replicate (cap'-(done.length+1)) (AV.s [])))],⟨_,List.perm_append_comm (l₁:=[_]) (l₂:=[_,_,_]),?_⟩,.inr ⟨b',cap',List.replicate (cap'-(done.length+1)) (AV.s []),JK.rep rfl _,hb2,hb1,by simp;omega,by simp⟩⟩
     exact((((List.nil_sublist _).cons_cons _).cons _).cons_cons _).cons_cons _
 ·rintro t H' ⟨rfl,done,H1,hp,⟨H2,rfl,hg⟩,rfl⟩ hnd
  refine⟨r,H2++HS,HSub.of_perm (by rw[List.append_nil];exact List.perm_append_comm (l₂:=_::_)),by rw[hready];simp,?_⟩
  rw[hpend]
  rcases hg with⟨rfl,rfl⟩|⟨b,cap,j,hj,hbb,hby,hcap,rfl⟩
  ·simp (disch:=omega) [zz,PR,hse,Tryz.f191]
   exact⟨HS,HSub.of_sub ((List.Sublist.refl _).cons _),[],hp,.inl ⟨rfl,rfl,rfl⟩⟩
  ·have hkr:=KE (cap:=cap) (ts:=done) hj
   simp (disch:=omega) [zz,PR,hse,hkr,Tryz.f191]
   exact⟨(b,wY cap done j)::HS,HSub.of_sub ((List.Sublist.refl _).cons _),done,hp,.inr ⟨b,cap,j,hj,hcap,rfl,rfl⟩⟩
theorem ze2 {g c:Nat} {T:TyD} {HS:q8} {ks:List Txt} (hs:zzE g c T HS ks) (hlen:ks.length≤1000000) :
  q7 Tryz.prog 165 [.av .func (.fn g [.ptr c T []])] HS (wR ks HS):=by
 have hse:=hs.2.1
 refine zov Tryz.func165 cf0 fun imm0 w0=>?_
 simp (disch:=omega) [zz]
 refine jP (R:=wR ks HS) rfl (by simp[qQ]) (by simp) ?_ ?_
 ·have:=q7.argNil (CB hs hlen)
  simpa[TV.er,AV.er,AV.ers,hse]using this
 rintro r' H' ⟨done,hp,⟨rfl,rfl,rfl⟩|⟨b,cap,j,hj,hcap,rfl,rfl⟩⟩
 ·simp (disch:=omega) [zz,hse,Tryz.f165]
  exact⟨[],hp,.inl ⟨rfl,rfl,rfl⟩⟩
 ·have hkr:=KE (cap:=cap) (ts:=done) hj
  simp (disch:=omega) [zz,hse,hkr,Tryz.f165]
  exact⟨done,hp,.inr ⟨b,cap,j,hj,hcap,rfl,rfl⟩⟩
@[simp] theorem zlM:qZ Tryz.prog 115=true:=by kernel_rfl
@[simp] theorem zr3:z8 Tryz.prog (.func 115)=false:=q9 zlM
def wS (ks:List Txt) (rest:q8) (r:TV) (H':q8):Prop:=∃v H1,r=.av TxS v∧KF (kK ks) v H1∧H'=H1++rest
theorem zJQ {a b:List Txt} (h:a.Perm b):kK a=kK b:=by
 unfold kK
 have h1:=List.pairwise_mergeSort (le:=fun(a b:Txt)=>decide (a≤b)) (fun a b c h1 h2=>by simp only[decide_eq_true_eq]at *;exact List.le_trans h1 h2) (fun a b=>by simp only[Bool.or_eq_true,decide_eq_true_eq];exact List.le_total a b) a
 have h2:=List.pairwise_mergeSort (le:=fun(a b:Txt)=>decide (a≤b)) (fun a b c h1 h2=>by simp only[decide_eq_true_eq]at *;exact List.le_trans h1 h2) (fun a b=>by simp only[Bool.or_eq_true,decide_eq_true_eq];exact List.le_total a b) b
 refine List.Perm.eq_of_pairwise (fun x y _ _ h3 h4=>?_) h1 h2 ((List.mergeSort_perm _ _).trans (h.trans (List.mergeSort_perm _ _).symm))
 simp only[decide_eq_true_eq]at h3 h4
 exact List.le_antisymm h3 h4
theorem ze9 {g c:Nat} {T:TyD} {HS:q8} {ks:List Txt} (hs:zzE g c T HS ks) (hlen:ks.length≤1000000) :
  q7 Tryz.prog 115 [.av .func (.fn g [.ptr c T []])] HS (wS ks HS):=by
 have hse:=hs.2.1
 refine q7.nilR (R:=fun r H'=>(ks=[]∧r=.av TxS .nsl∧H'=HS)∨wS ks HS r H') ?_ ?_
 rotate_left
 ·rintro r H' (⟨e,rfl,rfl⟩|h)
  ·exact .inr ⟨_,rfl,_,[],rfl,.inl ⟨by rw[e];simp[kK],rfl,rfl⟩,rfl⟩
  ·exact .inl h
 refine zov Tryz.func115 cf0 fun imm0 w0=>?_
 simp (disch:=omega) [zz]
 refine jP (R:=wR ks HS) rfl (by simp[qQ]) (by simp) ?_ ?_
 ·have:=ze2 hs hlen
  simpa[TV.er,AV.er,AV.ers,hse]using this
 rintro r' H0 ⟨done,hp,⟨rfl,rfl,rfl⟩|⟨b,cap,j,hj,hcap,rfl,rfl⟩⟩
 ·simp (disch:=omega) [zz]
  refine qE (R:=fun r H'=>r=.tup []∧H'=[]) [] H0 (List.Perm.refl _) rfl (by simp[qQ]) (by simp) ?_ ?_
  ·have:=q7.argNsl dQ
   simpa[TV.er,AV.er,AV.ers,q8.er_nil]using this
  rintro r' H' ⟨rfl,rfl⟩ _
  refine⟨_,HSub.refl _,?_⟩
  simp (disch:=omega) [zz,hse,Tryz.f115]
  have hnl:ks=[]:=List.nil_perm.1 hp
  subst hnl
  first|exact .inl rfl|exact .inl ⟨rfl,rfl⟩
 ·have hkr:=fun ts=>KE (cap:=cap) (ts:=ts) hj
  have hdl:done.length≤1000000:=by rw[hp.length_eq];exact hlen
  simp (disch:=omega) [zz]
  refine qE (R:=fun r H'=>r=.tup []∧H'=[(b,wY cap (kK done) j)]) [(b,wY cap done j)] HS (List.Perm.refl _) rfl (by simp[qQ]) (by simp) ?_ ?_
  ·have:=zaG done b cap j hcap (by omega)
   have e:q8.er [(b,wY cap done j)]=[(b,wY cap done j)]:=by rw[q8.er_cons,hkr];rfl
   rw[e]
   simpa[TV.er,AV.er,AV.ers,wY]using this
  rintro r' H' ⟨rfl,rfl⟩ _
  refine⟨_,HSub.refl _,?_⟩
  have hks:=hkr (kK done)
  simp (disch:=omega) [zz,hse,hks,Tryz.f115]
  refine⟨_,_,rfl,.inr ⟨b,cap,j,hj,?_,?_,rfl⟩,?_⟩
  ·rw[←zJQ hp,ZO]
  ·rw[←zJQ hp,ZO];exact hcap
  ·rw[zJQ hp];rfl
end Go.Proofs.YtcioeonlclpacaaGreatDoor
end
section
set_option maxRecDepth 100000
namespace Go.Proofs.YtcioeonlclpacaaGreatDoor
open Go Go.Ab
open Classical
variable [Sel] [SelPow]
@[simp] theorem zlv:qZ Tryz.prog 116=true:=by kernel_rfl
@[simp] theorem zpR:z8 Tryz.prog (.func 116)=false:=q9 zlv
@[simp] theorem zmw:qZ Tryz.prog 167=true:=by kernel_rfl
@[simp] theorem zpV:z8 Tryz.prog (.func 167)=false:=q9 zmw
abbrev FmT:TyD:=.map 9 125
noncomputable def fbO (M:Nat):HObj:=.var FmT (.map (some M))
abbrev zTl:Cfg:=⟨fun n=>n==1,fun _=>false⟩
theorem zRc (M:Nat):q7 Tryz.prog 116 [.av FmT (.map (some M))] [] fun r H'=>∃c,r=.av .func (.fn 167 [.ptr c FmT []])∧H'=[(c,fbO M)]:=by
 refine zov Tryz.func116 zTl fun imm0 w0=>?_
 simp (disch:=omega) [zz]
 intro c
 simp (disch:=omega) [zz,Tryz.f116,fbO,AV.ers]
set_option maxHeartbeats 4000000 in
theorem zOc {G:List Txt→q8→Prop} (y c M:Nat) (hcM:c≠M) (l:List (Txt × FV)) (en:Array MapEntry) (ck:Nat) (i0:Nat→Nat) (w1:World) (hop:gM Tryz.prog 9 125 (flE l) en ck i0 w1)
  (hGe:∀done H,G done H→H.er=H)
  (hY:∀done (k:Txt) H,k∈l.map (·.1)→done.length<l.length→G done H→YC Tryz.prog y [.av .str (.s k)] H fun r H'=>r=.av .bool (.b true)∧G (done++[k]) H') :
  ∀H,G [] H→q7 Tryz.prog 167 [.av .func (.yl y),.av .ptr (.ptr c FmT [])] ((c,fbO M)::(M,.raw (.map en ck) i0 w1)::H)
   fun r H'=>r=.tup []∧∃done H1 it o,done.Perm (l.map (·.1))∧G done H1∧H'=(it,o)::(c,fbO M)::(M,.raw (.map en ck) i0 w1)::H1:=by
 intro H hG
 have hMc:¬M=c:=fun e=>hcM e.symm
 refine zov Tryz.func167 cf0 fun imm0 w0=>?_
 simp (disch:=omega) [zz,fbO,hcM,hMc]
 intro it hit hiM _
 have hit':¬c=it:=fun e=>hit e.symm
 have hiM':¬M=it:=fun e=>hiM e.symm
 have hsz:en.size=l.length:=by have:=p5 hop.ents;simpa[flE]using this.symm
 refine AT.loop' (α:=List Nat × q8) (fun p=>St.of [(0,.av .func (.yl y)),(1,.av .ptr (.ptr c FmT [])),(5,.av .ptr (.ptr it .other []))] [] (fun _=>0) ((it,.raw (.mapIter (some M) ck (xK en p.1) ck) (fun _=>0) default)::(c,fbO M)::(M,.raw (.map en ck) i0 w1)::p.2))
  (fun p=>p.1.Nodup∧(∀i∈p.1,i<en.size)∧G (XL (l.map (·.1)) p.1) p.2) (fun p=>en.size-p.1.length) ([],H) ?_ ?_ ?_
 ·apply Le.of<;>simp[qU,qG,fbO,xK]<;>try omega
 ·exact⟨List.nodup_nil,by simp,hG⟩
 rintro⟨ids,H1⟩ ⟨hnd,hlt,hG1⟩ KL hN hE
 simp only at hnd hlt hG1
 refine qM (cf:=cf0) laid mixed _ _ _ (by kernel_rfl) ?_
 simp (disch:=omega) [zz,fbO,hit,hiM,hit',hiM',hcM,hMc,zeg]
 refine⟨9,125,flE l,hop,fun hall=>?_,fun i me u v hi hns hes=>?_⟩
 ·refine hE _ _ (by simp) ?_
  have hperm:(XL (l.map (·.1)) ids).Perm (l.map (·.1)):=by
   refine zdP hnd (fun i hi=>by have:=hlt i hi;simpa[hsz]using this) fun i hi=>?_
   have hi':i<en.size:=by simpa[hsz]using hi
   exact(cV hop.st hlt (Array.getElem?_eq_getElem hi')).1 (hall i _ (Array.getElem?_eq_getElem hi'))
  have hH:=hGe _ _ hG1
  simp (disch:=omega) [zz,Tryz.f167,hH,HObj.er]
  exact⟨_,hperm,hG1⟩
 ·have hil:i<en.size:=(Array.getElem?_eq_some_iff.1 hi).1
  have hni:i∉ids:=fun h=>hns ((cV hop.st hlt hi).2 h)
  have hic:i<l.length:=by omega
  have hu:u=AV.s l[i].1:=by
   simp only[flE]at hes
   rw[List.getElem?_map,List.getElem?_eq_getElem hic]at hes
   have:=Option.some.inj hes
   exact(congrArg Prod.fst this).symm
  subst hu
  rw[zdQ en ids hi]
  refine⟨9,125,flE l,hop,i,me,hi,AV.s l[i].1,v,hes,rfl,?_⟩
  simp (disch:=omega) [zz]
  have hkm:l[i].1∈l.map (·.1):=List.mem_map.2 ⟨l[i],List.getElem_mem hic,rfl⟩
  have hGn:XL (l.map (·.1)) (ids++[i])=XL (l.map (·.1)) ids++[l[i].1]:=by
   simp[XL,List.getElem?_eq_getElem hic]
  have hnd2:(ids++[i]).Nodup:=List.nodup_append.2 ⟨hnd,by simp,fun a ha b hb e=>by simp only[List.mem_singleton]at hb;subst hb;exact hni (e▸ha)⟩
  have hlt2:∀k∈ids++[i],k<en.size:=fun k hk=>by
   rcases List.mem_append.1 hk with h|h
   ·exact hlt k h
   ·simp only[List.mem_singleton]at h;omega
  have hle2:=gK en.size _ hnd2 hlt2
  refine JY (R:=fun r H'=>r=.av .bool (.b true)∧G (XL (l.map (·.1)) (ids++[i])) H') H1 [(it,.raw (.mapIter (some M) ck (xK en (ids++[i])) ck) (fun _=>0) default),(c,fbO M),(M,.raw (.map en ck) i0 w1)] (List.perm_append_comm (l₁:=[_,_,_])) (by simp[qQ]) ?_ ?_
  ·rw[hGe _ _ hG1,hGn]
   have:=hY _ _ _ hkm (by simp only[XL,List.length_map];simp at hle2;omega) hG1
   simpa[TV.er]using this
  rintro r H2 ⟨rfl,hG2⟩ _
  refine⟨(it,.raw (.mapIter (some M) ck (xK en (ids++[i])) ck) (fun _=>0) default)::(c,fbO M)::(M,.raw (.map en ck) i0 w1)::H2,HSub.of_perm (List.perm_append_comm (l₂:=[_,_,_])),?_⟩
  simp (disch:=omega) [zz]
  refine hN _ (ids++[i],H2) ?_ ⟨hnd2,hlt2,hG2⟩ (by simp at hle2 ⊢;omega)
  apply Le.of<;>simp[qU,qG,fbO]<;>try omega
theorem zPN {G:List Txt→q8→Prop} (y c M:Nat) (hcM:c≠M) (l:List (Txt × FV)) (hGe:∀done H,G done H→H.er=H)
  (hY:∀done (k:Txt) H,k∈l.map (·.1)→done.length<l.length→G done H→YC Tryz.prog y [.av .str (.s k)] H fun r H'=>r=.av .bool (.b true)∧G (done++[k]) H') (H:q8) (hG:G [] H) :
  q7 Tryz.prog 167 [.av .func (.yl y),.av .ptr (.ptr c FmT [])] ((M,flO l)::(c,fbO M)::H)
   fun r H'=>r=.tup []∧∃done H1,done.Perm (l.map (·.1))∧G done H1∧H'=(M,flO l)::(c,fbO M)::H1:=by
 refine q7.openMap fun en ck i0 w1 hop=>?_
 refine q7.conv (R:=fun r H'=>r=.tup []∧∃done H1,done.Perm (l.map (·.1))∧G done H1∧H'=(M,.raw (.map en ck) i0 w1)::(c,fbO M)::H1) ?_ ?_
 ·refine q7.sub (((zOc y c M hcM l en ck i0 w1 hop hGe hY H hG)).perm (List.Perm.swap _ _ _)) ?_
  rintro r H' ⟨rfl,done,H1,it,o,hp,hg,rfl⟩ _
  exact⟨_,⟨_,List.Perm.cons _ (List.Perm.swap _ _ _),(List.Sublist.refl _).cons _⟩,rfl,done,H1,hp,hg,rfl⟩
 ·rintro r H' ⟨rfl,done,H1,hp,hg,rfl⟩
  exact⟨(M,flO l)::(c,fbO M)::H1,fun b hb=>hb,fun imm w h=>h.shutMap hop,rfl,done,H1,hp,hg,rfl⟩
theorem zSp (l:List (Txt × FV)):(flO l).er=flO l:=by
 simp only[flO,HObj.er_map]
 congr 1
 simp only[flE,List.map_map]
 refine List.map_congr_left fun p _=>?_
 simp[flF,AV.er,AV.ers]
theorem zPo (c M:Nat) (hcM:c≠M) (l:List (Txt × FV)):zzE 167 c FmT [(M,flO l),(c,fbO M)] (l.map (·.1)) :=
 ⟨by simp,by simp only[q8.er_cons,q8.er_nil,zSp l];rfl,fun G y hGe hY H hG=>zPN y c M hcM l hGe (fun done k H _ h2 h3=>hY done k H (by simpa using h2) h3) H hG⟩
@[simp] theorem zG8:qZ Tryz.prog 53=true:=by kernel_rfl
@[simp] theorem zGC:z8 Tryz.prog (.func 53)=false:=q9 zG8
@[simp] theorem zyp:qZ Tryz.prog 17=true:=by kernel_rfl
@[simp] theorem zyA:z8 Tryz.prog (.func 17)=false:=q9 zyp
@[simp] theorem zGa:qZ Tryz.prog 93=true:=by kernel_rfl
@[simp] theorem zGA:z8 Tryz.prog (.func 93)=false:=q9 zGa
def c6 (d:DV):List Txt:=(if d.m.isSome then [nmK] else [])++(if d.n.isSome then [nmN] else [])
theorem zMM:kK [nmK,nmN]=[nmK,nmN]:=by
 unfold kK
 refine List.mergeSort_of_pairwise ?_
 simp only[List.pairwise_cons,List.mem_singleton,List.not_mem_nil,false_implies,implies_true,List.Pairwise.nil,and_true,forall_eq,decide_eq_true_eq]
 decide
theorem zOC (o:Bool) (d:DV):kK ((ents o d).map (·.1))=c6 d:=by
 obtain⟨m,n,l⟩:=d
 have h2:kK [nmN,nmK]=[nmK,nmN]:=by rw[zJQ (List.Perm.swap _ _ _)];exact zMM
 have h1:∀x:Txt,kK [x]=[x]:=fun x=>by simp[kK]
 have h0:kK []=[]:=by simp[kK]
 cases o<;>cases m<;>cases n<;>simp[ents,zMd,c6,h0,h1,h2,zMM]
theorem zcS (o:Bool) (d:DV):(ents o d).length≤2:=by
 obtain⟨m,n,l⟩:=d
 cases o<;>cases m<;>cases n<;>simp[ents,zMd]
set_option maxHeartbeats 4000000 in
theorem zOw (B M:Nat) (hBM:M≠B) (o:Bool) (d:DV) :
  q7 Tryz.prog 53 [.av .ptr (.ptr B zJB [])] (j4 B M o d) fun r H'=>∃v H1,r=.av TxS v∧KF (c6 d) v H1∧Ab.HSub (H1++j4 B M o d) H':=by
 have hBM':¬B=M:=fun e=>hBM e.symm
 refine zov Tryz.func53 cf0 fun imm0 w0=>?_
 simp (disch:=omega) [zz,j4]
 refine qE (R:=fun r H'=>∃c,r=.av .func (.fn 167 [.ptr c FmT []])∧H'=[(c,fbO M)]) [] (j4 B M o d) (List.Perm.refl _) rfl (by simp[qQ]) (by simp) ?_ ?_
 ·have:=zRc M
  simpa[TV.er,AV.er,AV.ers,q8.er_nil]using this
 rintro r' H' ⟨c,rfl,rfl⟩ hnd
 simp[q8.keys,j4]at hnd
 refine⟨(c,fbO M)::j4 B M o d,HSub.refl _,?_⟩
 simp (disch:=omega) [zz]
 refine qE (R:=wS ((ents o d).map (·.1)) [(M,flO (ents o d)),(c,fbO M)]) [(M,flO (ents o d)),(c,fbO M)] [(B,.var zJB (.agg [.map (some M),.i .i64 d.left]))] ?_ rfl (by simp[qQ]) (by simp) ?_ ?_
 ·exact(List.perm_append_comm (l₁:=[_,_]) (l₂:=[_])).trans (List.Perm.refl _)
 ·have:=ze9 (zPo c M (by simp_all) (ents o d)) (by have:=zcS o d;simp;omega)
  simpa[TV.er,AV.er,AV.ers,q8.er_cons,q8.er_nil,fbO,HObj.er_var,AV.erk]using this
 rintro r' H' ⟨v,H1,rfl,hrow,rfl⟩ _
 rw[zOC]at hrow
 have hre:=hrow.er
 refine⟨H1++j4 B M o d,?_,?_⟩
 ·refine⟨(c,fbO M)::(H1++j4 B M o d),?_,List.sublist_cons_self _ _⟩
  unfold j4
  rw[List.append_assoc]
  refine List.Perm.trans (List.Perm.append_left H1 (List.perm_append_comm (l₁:=[_,_]) (l₂:=[_]))) ?_
  exact(List.Perm.append_left H1 (List.perm_append_comm (l₁:=[_,_]) (l₂:=[_]))).trans List.perm_middle
 ·simp (disch:=omega) [zz,Tryz.f53,hre.2]
  refine⟨H1,hrow,?_⟩
  rw[hre.1]
  exact HSub.refl _
theorem zPf (B M:Nat) (hBM:M≠B) (o:Bool) (d:DV) :
  q7 Tryz.prog 53 [.av .ptr (.ptr B zJB [])] (j4 B M o d) fun r H'=>r=.av TxS (.sl .no (strs (c6 d)))∧H'=j4 B M o d:=by
 have g1:=q7.sub (R':=fun r H'=>∃v H1,r=.av TxS v∧KF (c6 d) v H1∧H'=H1++j4 B M o d) (zOw B M hBM o d) (by
  rintro r H' ⟨v,H1,h1,h2,h3⟩ _
  exact⟨_,h3,v,H1,h1,h2,rfl⟩)
 refine g1.freeze laid ?_
 rintro r H' ⟨v,H1,rfl,⟨hn,rfl,rfl⟩|⟨b,cap,j,hj,rfl,hcap,rfl⟩,rfl⟩ _
 ·exact .inr ⟨by rw[hn];rfl,rfl⟩
 ·refine .inl ⟨b,cap,9,strs (c6 d)++j,j4 B M o d,List.Perm.refl _,?_,rfl⟩
  have htk:(strs (c6 d)++j).take (c6 d).length=strs (c6 d):=by rw[List.take_append_of_le_length (by simp[strs])];exact List.take_of_length_le (by simp[strs])
  have hle:(c6 d).length≤cap:=by omega
  simp[zho,fzA,hle,htk]
theorem zLH {s:St} {dst:Option Nat} {K:St→Prop} {args:List TV} (B M:Nat) (hBM:M≠B) (o:Bool) (d:DV) (rest:q8) (hH:s.H.Perm (j4 B M o d++rest)) (ha:args=[.av .ptr (.ptr B zJB [])])
  (hk:K (({ s with H:=s.H }:St).put dst (.av TxS (.sl .no (strs (c6 d)))))) :
  ZP Tryz.prog s (.av .func (.fn 53 [])) args dst K:=by
 subst ha
 refine qE (j4 B M o d) rest hH rfl rfl (by simp) (R:=fun r H'=>r=.av TxS (.sl .no (strs (c6 d)))∧H'=j4 B M o d) ?_ ?_
 ·rw[zLQ]
  simpa[TV.er,AV.er]using zPf B M hBM o d
 rintro r' H' ⟨rfl,rfl⟩ _
 exact⟨s.H,HSub.of_perm hH.symm,hk⟩
theorem zMK (b:Bool) (d:DV):nmB b∈c6 d↔(g5 b d).isSome=true:=by
 obtain⟨m,n,l⟩:=d
 cases b<;>cases m<;>cases n<;>simp[c6,nmB,g5,zMs,zLv]
theorem zME (d:DV):(c6 d).length≤2:=by unfold c6;split<;>split<;>simp
theorem zK2 {s:St} {dst:Option Nat} {K:St→Prop} {args bs:List TV} {f:Nat} {R0:TV} {d':DV} (pre:q8) (B M:Nat) (o:Bool) (d:DV) (hH:s.H.Perm (pre++j4 B M o d))
  (hc:q7 Tryz.prog f bs (j4 B M o d) fun r H'=>r=R0∧zJN B M d' H') (hf:qZ Tryz.prog f=true) (ha:args.all qQ=true) (hx:qS (args.map TV.er) bs)
  (hk:∀o',K (({ s with H:=pre++j4 B M o' d' }:St).put dst R0)):ZP Tryz.prog s (.av .func (.fn f [])) args dst K:=by
 refine qE (j4 B M o d) pre (hH.trans List.perm_append_comm) rfl ha hf (R:=fun r H'=>r=R0∧zJN B M d' H') ?_ ?_
 ·rw[zLQ]
  exact q7.args hc (by simpa using hx)
 rintro r' H' ⟨rfl,o',rfl⟩ _
 exact⟨_,HSub.of_perm List.perm_append_comm,hk o'⟩
end Go.Proofs.YtcioeonlclpacaaGreatDoor
end
