/- The sort of texts. No condition beyond each theorem's own. -/
import Derived.Test.YtcgpcfcbienapaaGreatDoorGB4ToKT3
import Derived.Test.YtcgpcfcbienapaaGreatDoorShelf5
import Derived.Test.YtcgpcfcbienapaaGreatDoorQ0ToK5
set_option linter.unusedSimpArgs false
set_option linter.unusedVariables false
set_option linter.unusedSectionVars false
section
set_option maxRecDepth 100000
namespace Go.Proofs.YtcgpcfcbienapaaGreatDoor
open Go Go.Ab
open Classical
variable [Sel] [SelPow] [SelMax]
open Go.Sort (grow mapBlock putCells putRow ahead Holds onCells)
theorem zai {P:Program} {g:Gh} {w:World} {e:TypeId}:∀ {xs ys:List AV} {c:List Value},VL P g w e (xs++ys) c→∃c1 c2,c=c1++c2∧VL P g w e xs c1∧VL P g w e ys c2
 | [],ys,c,h=>⟨[],c,rfl,by simp[VL],h⟩
 | x::xs,ys,c,h=>by
  simp only[List.cons_append,VL]at h
  obtain⟨a,r,rfl,h1,h2⟩:=h
  obtain⟨c1,c2,rfl,h3,h4⟩:=zai h2
  exact⟨a++c1,c2,by simp,by simp only[VL];exact⟨a,c1,rfl,h1,h3⟩,h4⟩
theorem gS {w:World} {b:Nat} {cs:Array Value} {E:TypeId} {fz:Nat × Nat} (hb:w.heap[b]?=some (.cells cs E fz)) (f:Array Value→Array Value):mapBlock w b f=w.setRow b (f cs):=by
 have hlt:=(Array.getElem?_eq_some_iff.1 hb).1
 unfold mapBlock World.setRow
 congr 1
 apply Array.ext_getElem?
 intro k
 simp only[Array.getElem?_modify]
 by_cases hk:b=k
 ·subst hk
  simp[hb,onCells]
 ·simp[hk]
theorem zE.grow2 {c:Ctx} {s:St} {a:Act} {w:World} {g:Gh} {β:Nat→Nat} (h:zE c s a w g β):∀(l:List Obj),zE c s a (Go.Sort.grow w l.toArray) g β:=by
 intro l
 induction l generalizing w with
 | nil=>simpa using h
 | cons o l ih =>
  have h1:=h.push o 0 (by omega)
  have eg:({ g with imm:=upd g.imm w.heap.size 0 }:Gh)=g:=by
   have:upd g.imm w.heap.size 0=g.imm:=by
    funext b;simp only[upd];split
    ·rename_i e;rw[e,QC h.rep.imm (Nat.le_refl _)]
    ·rfl
   rw[this]
  rw[eg]at h1
  have h2:=ih h1
  have e2:Go.Sort.grow (World.push' w o) l.toArray=Go.Sort.grow w (o::l).toArray:=by
   unfold Go.Sort.grow World.push'
   simp only[World.mk.injEq,and_true]
   apply Array.toList_inj.1
   simp only[Array.toList_append,Array.toList_push,List.append_assoc,List.cons_append,List.nil_append]
  rw[e2]at h2
  exact h2
abbrev enS:List UInt8→Value:=fun l=>Value.string ⟨l.toArray⟩
theorem zbo {P:Program} {g:Gh} {w:World} {e:TypeId} (he:qD P e=.str):∀(d:List Txt) (c:List Value),VL P g w e (strs d) c↔c=d.map enS
 | [],c=>by simp[strs,VL]
 | b::d,c=>by
  have ih:=zbo (g:=g) (w:=w) he d
  simp only[strs,List.map_cons,VL]at ih ⊢
  constructor
  ·rintro⟨c1,c2,rfl,h1,h2⟩
   rw[he]at h1
   simp only[VC]at h1
   rw[h1.2,(ih c2).1 h2];rfl
  ·rintro rfl
   exact⟨[_],_,rfl,by rw[he];simp[VC],(ih _).2 rfl⟩
theorem D6 (F:Array (List UInt8)) (cs:Array Value) (h:F.size≤cs.size):(putCells enS 0 F cs).toList=F.toList.map enS++cs.toList.drop F.size:=by
 apply List.ext_getElem?
 intro t
 simp only[putCells,Array.getElem?_toList,Array.getElem?_mapIdx]
 by_cases ht:t<F.size
 ·rw[List.getElem?_append_left (by simpa using ht),Array.getElem?_eq_getElem (by omega),Option.map_some,if_pos ⟨Nat.zero_le _,by omega⟩]
  rw[List.getElem?_map,Array.getElem?_toList,Array.getElem?_eq_getElem ht]
  simp[getElem!_pos F t ht]
 ·rw[List.getElem?_append_right (by simp;omega),List.getElem?_drop]
  have e1:F.size+(t-(F.toList.map enS).length)=t:=by simp;omega
  rw[e1,Array.getElem?_toList]
  cases hc:cs[t]? with
  | none=>rfl
  | some y=>rw[Option.map_some,if_neg (by omega)]
theorem ZO (l:List Txt):(kK l).length=l.length:=by unfold kK;exact List.length_mergeSort _
theorem W0 (l:List Txt):(kK l).Perm l:=List.mergeSort_perm _ _
theorem zaG (ts:List Txt) (b cap:Nat) (j:List AV) (hcap:ts.length+j.length=cap) (hn:ts.length≤1000000000) :
  q7 Tryz.prog 77 [.av (.slice 9) (.msl b 9 0 ts.length cap)] [(b,.var (.arr cap 9) (.agg (strs ts++j)))]
   fun r H'=>r=.tup []∧H'=[(b,.var (.arr cap 9) (.agg (strs (kK ts)++j)))]:=by
 intro imm w vs hrep hargs
 obtain⟨vs⟩:=vs
 match vs,hargs with
 | [v1],⟨h1,_⟩ =>
  obtain⟨f1,h1⟩:=h1
  simp only[VC]at h1
  obtain⟨_,h1⟩:=h1
  rw[qR rfl f1,Nat.zero_mul]at h1
  have e1:v1=.slice (some ⟨b,0,none⟩) ts.length cap:=by simpa using h1
  subst e1
  obtain⟨h0,cs,hcs,hvc⟩:=hrep.obj b (.var (.arr cap 9) (.agg (strs ts++j))) (by simp)
  obtain⟨E,fz,hb,hfz⟩:=x4 hcs (by rw[ty9];simp)
  simp only[VC]at hvc
  obtain⟨hm,hvl⟩:=hvc
  obtain⟨c1,c2,hcc,hv1,hv2⟩:=zai hvl
  have hst:=ty9
  rw[zbo hst]at hv1
  subst hv1
  have hle:ts.length≤cs.size:=by
   rw[←Array.length_toList,hcc];simp
  have hlt:b<w.heap.size:=(Array.getElem?_eq_some_iff.1 hb).1
  have hH:Holds enS w b 0 ts.toArray:=by
   intro t ht
   rw[Nat.zero_add]
   have ht':t<ts.length:=by simpa using ht
   refine⟨?_,?_⟩
   ·rw[KG hb]
    have e3:cs[t]?=cs.toList[t]?:=by simp
    rw[e3,hcc,List.getElem?_append_left (by simpa using ht'),List.getElem?_map,List.getElem?_eq_getElem ht',getElem!_pos _ t ht]
    rfl
   ·simp only[World.frozen?,hb,Bool.and_eq_false_iff,decide_eq_false_iff_not]
    omega
  have hcall:=Tryz.slices_Sort_string b 0 cap ts w hH hlt (by omega)
  refine Calls.mono hcall ?_
  rintro e w' ⟨rfl,n,os,rfl⟩
  have hS:zE ⟨Tryz.prog,0,imm,[(b,.var (.arr cap 9) (.agg (strs ts++j)))],w,none⟩ { env:=fun _=>.junk,loc:=fun _=>none,ver:=fun _=>0,H:=[(b,.var (.arr cap 9) (.agg (strs ts++j)))] } { tmps:=#[],defers:=[] } w (g0 imm) (fun _=>0):={
   defers:=⟨rfl,List.nodup_nil,fun D hD=>by simp at hD⟩
   size:=rfl
   env:=fun t=>trivial
   locs:=fun k d x e=>by simp at e
   inj:=fun k j e=>by simp at e
   rep:=hrep
   toks:=fun k t e=>by simp[g0]at e
   tokd:=fun k k' t t' e=>by simp[g0]at e
   toknew:=fun k v _=>rfl
   step:=JI.refl }
  have hsl:=ZO ts
  have hsz:(kK ts).toArray.size=ts.length:=by simpa using hsl
  have hS1:=hS.drew (w.drawn+n) (Nat.le_add_right _ _)
  have hS2:=hS1.setH (b:=b) (d:=.arr cap 9) (x:=.agg (strs ts++j)) (y:=.agg (strs (kK ts)++j)) (cs:=putCells enS 0 (kK ts).toArray cs) (by simp[jM]) hcs (by simp[putCells]) (by
   rw[D6 _ _ (by rw[hsz];exact hle),hsz,hcc]
   have e4:(ts.map enS++c2).drop ts.length=c2:=by
    rw[List.drop_append,List.drop_of_length_le (by simp)];simp
   rw[e4]
   simp only[VC]
   refine⟨by rw[List.length_append,qX,hsl];exact hcap,wE ((zbo hst _ _).2 rfl) (ZU (w':={ w with drawn:=w.drawn+n }) (Gh.le_refl _) hrep.imm (fun b cs E fz _ hb=>⟨cs,E,fz,hb,rfl,fun _ _=>rfl⟩) _ _ _ hv2)⟩)
  have hS3:=zE.grow2 hS2 os.toList
  have ew:Go.Sort.grow (World.setRow { w with drawn:=w.drawn+n } b (putCells enS 0 (kK ts).toArray cs)) os.toList.toArray=grow (putRow enS (Go.Sort.ahead w n) b 0 (kK ts).toArray) os:=by
   unfold putRow
   rw[gS (w:=Go.Sort.ahead w n) (b:=b) (cs:=cs) (E:=E) (fz:=fz) hb]
   simp[Go.Sort.ahead]
  rw[ew]at hS3
  have eh:j1 [(b,HObj.var (.arr cap 9) (.agg (strs ts++j)))] b (.var (.arr cap 9) (.agg (strs (kK ts)++j)))=[(b,.var (.arr cap 9) (.agg (strs (kK ts)++j)))]:=by simp[j1]
  refine⟨.tuple #[],.tup [],imm,[(b,.var (.arr cap 9) (.agg (strs (kK ts)++j)))],rfl,⟨rfl,rfl⟩,⟨[],rfl,trivial⟩,?_,?_⟩
  ·have:=hS3.rep
   simp only[eh]at this
   exact this
  ·have:=hS3.step
   simp only[eh]at this
   exact this
theorem dQ:q7 Tryz.prog 77 [.av (.slice 9) (.sl .no [])] [] fun r H'=>r=.tup []∧H'=[]:=by
 intro imm w vs hrep hargs
 obtain⟨vs⟩:=vs
 match vs,hargs with
 | [v1],⟨h1,_⟩ =>
  obtain⟨f1,h1⟩:=h1
  simp only[VC]at h1
  obtain⟨e,a,cap,_,h1,_⟩:=h1
  rw[qR rfl f1]at h1
  have e1:v1=.slice a 0 cap:=by simpa using h1
  subst e1
  refine Calls.mono (Tryz.slices_Sort_string_none a cap w) ?_
  rintro e w' ⟨rfl,rfl⟩
  exact⟨.tuple #[],.tup [],imm,[],rfl,⟨rfl,rfl⟩,⟨[],rfl,trivial⟩,hrep,JI.refl⟩
theorem zeX (ts:List Txt) (v:AV) (H:q8) (hrow:KF ts v H) (hn:ts.length≤1000000000) :
  q7 Tryz.prog 77 [.av (.slice 9) v] H fun r H'=>r=.tup []∧KF (kK ts) v H':=by
 rcases hrow with⟨rfl,rfl,rfl⟩|⟨b,cap,j,hj,rfl,hc,rfl⟩
 ·refine q7.sub dQ ?_
  rintro r H' ⟨rfl,rfl⟩ _
  exact⟨[],HSub.refl _,rfl,.inl ⟨by simp[kK],rfl,rfl⟩⟩
 ·refine q7.sub (zaG ts b cap j hc hn) ?_
  rintro r H' ⟨rfl,rfl⟩ _
  exact⟨_,HSub.refl _,rfl,.inr ⟨b,cap,j,hj,by rw[ZO],by rw[ZO];exact hc,rfl⟩⟩
end Go.Proofs.YtcgpcfcbienapaaGreatDoor
end
section
set_option maxRecDepth 100000
namespace Go.Proofs.YtcgpcfcbienapaaGreatDoor
open Go Go.Ab
open Classical
variable [Sel] [SelPow] [SelMax]
@[simp] theorem zx6:qZ Tryz.prog 77=true:=by kernel_rfl
@[simp] theorem zxx:z8 Tryz.prog (.func 77)=false:=q9 zx6
@[simp] theorem zko:qZ Tryz.prog 106=true:=by kernel_rfl
@[simp] theorem zqt:z8 Tryz.prog (.func 106)=false:=q9 zko
noncomputable def X9 (t:Txt) (ta ea:AV) (K:Nat) (asks:Txt) (waits:Bool) (over:DoV):HObj:=if 65536<t.length then qW ta ea [] K asks waits ⟨4,[],[],6⟩ else qW ta ea t K asks waits over
theorem zc5 {t:Txt} {ta ea:AV} {K:Nat} {asks:Txt} {waits:Bool} {over:DoV} (h1:ta.erk=ta) (h2:ea.erk=ea):(X9 t ta ea K asks waits over).er=X9 t ta ea K asks waits over:=by
 unfold X9;split<;>exact ZA h1 h2
abbrev zeM:Cfg:=⟨fun n=>n==6,fun n=>n==31⟩
section
variable (R:Nat) (arg:Txt) (ws:List Txt) (v:AV) (rowH:q8) (hrow:KF ws v rowH) (hn:ws.length≤1000000000) (ta ea:AV) (buf:Txt) (K:Nat) (asks:Txt) (waits:Bool) (over:DoV) (h1:ta.erk=ta) (h2:ea.erk=ea)
include hrow hn h1 h2
theorem zhh (hl:(jF (kK ws)).length≤1000000000) :
  q7 Tryz.prog 107 [.av .ptr (.ptr R kQ []),.av .str (.s wP),.av .str (.s arg),.av (.slice 9) v] ((R,qW ta ea buf K asks waits over)::rowH) fun r H'=>r=.tup []∧H'=[(R,X9 (jF (kK ws)) ta ea K asks waits over)]:=by
 obtain⟨hrer,hver⟩:=hrow.er
 have heo:=ZA (ta:=ta) (ea:=ea) (buf:=buf) (K:=K) (asks:=asks) (waits:=waits) (over:=over) h1 h2
 have hle:=zc5 (t:=jF (kK ws)) (K:=K) (asks:=asks) (waits:=waits) (over:=over) h1 h2
 refine q7.sub (R:=fun y H'=>y=.tup []∧∃H2,Ab.HSub H2 H'∧H2=[(R,X9 (jF (kK ws)) ta ea K asks waits over)]) ?_ fun y H' ⟨h1,H2,h2,h3⟩ _=>⟨H2,h2,h1,h3⟩
 refine zov Tryz.func107 zeM fun imm0 w0=>?_
 simp (disch:=omega) [zz,wP]
 intro b nb nb2
 refine qE (R:=fun y H'=>y=.tup []∧KF (kK ws) v H') rowH [(R,qW ta ea buf K asks waits over),(b,.var .str (.s arg))] ?_ rfl (by simp[qQ]) (by simp) ?_ ?_
 ·refine List.perm_iff_count.2 fun a=>?_
  simp only[List.count_append,List.count_cons,List.count_nil]
  omega
 ·rw[hrer]
  simpa[TV.er,AV.er,hver]using zeX ws v rowH hrow hn
 rintro y H1 ⟨rfl,hrow1⟩ _
 refine⟨_,HSub.refl _,?_⟩
 simp (disch:=omega) [zz]
 obtain⟨hrer1,hver1⟩:=hrow1.er
 refine qE (R:=fun y H'=>y=.tup []∧H'=[(R,X9 (jF (kK ws)) ta ea K asks waits over)]) ((R,qW ta ea buf K asks waits over)::H1) [(b,.var .str (.s arg))] ?_ rfl (by simp[qQ]) (by simp) ?_ ?_
 ·refine List.perm_iff_count.2 fun a=>?_
  simp only[List.count_append,List.count_cons,List.count_nil]
  omega
 ·rw[q8.er_cons,hrer1,heo]
  have:=X5 R (kK ws) v H1 hrow1 hl (by rw[ZO];exact hn) ta ea buf K asks waits over h1 h2
  simpa[TV.er,AV.er,hver,X9]using this
 rintro y H' ⟨rfl,rfl⟩ _
 refine⟨_,HSub.refl _,?_⟩
 simp (disch:=omega) [zz,Tryz.f107,hle]
 exact HSub.of_sub (List.Sublist.cons_cons _ (List.nil_sublist _))
theorem zgx (hl:(jF (kF ws)).length≤1000000000) :
  q7 Tryz.prog 107 [.av .ptr (.ptr R kQ []),.av .str (.s y4),.av .str (.s arg),.av (.slice 9) v] ((R,qW ta ea buf K asks waits over)::rowH) fun r H'=>r=.tup []∧H'=[(R,X9 (jF (kF ws)) ta ea K asks waits over)]:=by
 obtain⟨hrer,hver⟩:=hrow.er
 have heo:=ZA (ta:=ta) (ea:=ea) (buf:=buf) (K:=K) (asks:=asks) (waits:=waits) (over:=over) h1 h2
 have hle:=zc5 (t:=jF (kF ws)) (K:=K) (asks:=asks) (waits:=waits) (over:=over) h1 h2
 refine q7.sub (R:=fun y H'=>y=.tup []∧∃H2,Ab.HSub H2 H'∧H2=[(R,X9 (jF (kF ws)) ta ea K asks waits over)]) ?_ fun y H' ⟨h1,H2,h2,h3⟩ _=>⟨H2,h2,h1,h3⟩
 refine zov Tryz.func107 zeM fun imm0 w0=>?_
 simp (disch:=omega) [zz,y4]
 intro b nb nb2
 refine qE (R:=fun y H'=>∃v',y=.av (.slice 9) v'∧KF (kF ws) v' H') rowH [(R,qW ta ea buf K asks waits over),(b,.var .str (.s arg))] ?_ rfl (by simp[qQ]) (by simp) ?_ ?_
 ·refine List.perm_iff_count.2 fun a=>?_
  simp only[List.count_append,List.count_cons,List.count_nil]
  omega
 ·rw[hrer]
  simpa[TV.er,AV.er,hver]using zfv ws v rowH hrow hn
 rintro y H1 ⟨v',rfl,hrow1⟩ _
 refine⟨_,HSub.refl _,?_⟩
 simp (disch:=omega) [zz]
 obtain⟨hrer1,hver1⟩:=hrow1.er
 refine qE (R:=fun y H'=>y=.tup []∧H'=[(R,X9 (jF (kF ws)) ta ea K asks waits over)]) ((R,qW ta ea buf K asks waits over)::H1) [(b,.var .str (.s arg))] ?_ rfl (by simp[qQ]) (by simp) ?_ ?_
 ·refine List.perm_iff_count.2 fun a=>?_
  simp only[List.count_append,List.count_cons,List.count_nil]
  omega
 ·rw[q8.er_cons,hrer1,heo]
  have:=X5 R (kF ws) v' H1 hrow1 hl (Nat.le_trans (zaW _) hn) ta ea buf K asks waits over h1 h2
  simpa[TV.er,AV.er,hver1,X9]using this
 rintro y H' ⟨rfl,rfl⟩ _
 refine⟨_,HSub.refl _,?_⟩
 simp (disch:=omega) [zz,Tryz.f107,hle]
 exact HSub.of_sub (List.Sublist.cons_cons _ (List.nil_sublist _))
end
theorem ziJ (b:Nat) (arg x:Txt) (hx:x.length≤1000000000):q7 Tryz.prog 141 [.av .str (.s x),.av .ptr (.ptr b .str [])] [(b,zF arg)] fun r H'=>r=.av .bool (.b (!Lib.contains x arg))∧H'=[(b,zF arg)]:=by
 refine zov Tryz.func141 cf0 fun imm0 w0=>?_
 simp (disch:=omega) [zz,zF]
 refine zcv (GN x arg (by omega)) ?_
 simp (disch:=omega) [zz,Tryz.f141]
theorem zht (R:Nat) (arg:Txt) (ws:List Txt) (v:AV) (rowH:q8) (hrow:KF ws v rowH) (hn:ws.length≤1000000000) (hx:∀x∈ws,x.length≤1000000000) (ta ea:AV) (buf:Txt) (K:Nat) (asks:Txt) (waits:Bool) (over:DoV) (h1:ta.erk=ta) (h2:ea.erk=ea)
  (hl:(jF (ws.filter fun s=>Lib.contains s arg)).length≤1000000000) :
  q7 Tryz.prog 107 [.av .ptr (.ptr R kQ []),.av .str (.s wQ),.av .str (.s arg),.av (.slice 9) v] ((R,qW ta ea buf K asks waits over)::rowH) fun r H'=>r=.tup []∧H'=[(R,X9 (jF (ws.filter fun s=>Lib.contains s arg)) ta ea K asks waits over)]:=by
 obtain⟨hrer,hver⟩:=hrow.er
 have heo:=ZA (ta:=ta) (ea:=ea) (buf:=buf) (K:=K) (asks:=asks) (waits:=waits) (over:=over) h1 h2
 have hle:=zc5 (t:=jF (ws.filter fun s=>Lib.contains s arg)) (K:=K) (asks:=asks) (waits:=waits) (over:=over) h1 h2
 have hkp:kpt (fun s=>!Lib.contains s arg) ws=ws.filter fun s=>Lib.contains s arg:=by simp[kpt]
 obtain⟨ks,hks⟩:∃ks,ks=ws.filter fun s=>Lib.contains s arg:=⟨_,rfl⟩
 have hkl:ks.length≤ws.length:=by rw[hks];exact List.length_filter_le _ _
 rw[←hks]at hl hle hkp ⊢
 refine q7.sub (R:=fun y H'=>y=.tup []∧∃H2,Ab.HSub H2 H'∧H2=[(R,X9 (jF ks) ta ea K asks waits over)]) ?_ fun y H' ⟨h1,H2,h2,h3⟩ _=>⟨H2,h2,h1,h3⟩
 refine zov Tryz.func107 zeM fun imm0 w0=>?_
 simp (disch:=omega) [zz,wQ]
 intro b nb nb2
 refine qE (R:=fun y H'=>∃v' H1,y=.av (.slice 9) v'∧KF ks v' H1∧(∀b,b∈H1.keys→b∈rowH.keys)∧H'=H1++[(b,zF arg)]) (rowH++[(b,zF arg)]) [(R,qW ta ea buf K asks waits over)] ?_ rfl (by simp[qQ]) (by simp) ?_ ?_
 ·refine List.perm_iff_count.2 fun a=>?_
  simp only[List.count_append,List.count_cons,List.count_nil,zF]
  omega
 ·rw[q8.er_app,hrer]
  have hp:zaJ (.fn 141 [.ptr b .str []]) b (zF arg) (fun s=>!Lib.contains s arg) ws:=⟨rfl,rfl,fun x hxm=>⟨_,rfl,by simp,by simpa[TV.er,AV.er]using ziJ b arg x (hx x hxm)⟩⟩
  have:=zgy (fun s=>!Lib.contains s arg) _ b (zF arg) ws hp v rowH hrow (fun b' hb e=>nb2 (e▸hb)) hn
  rw[hkp]at this
  simpa[TV.er,AV.er,hver,q8.er_cons,zF,HObj.er_var,AV.erk]using this
 rintro y H0 ⟨v',H1,rfl,hrow1,_,rfl⟩ _
 refine⟨_,HSub.refl _,?_⟩
 simp (disch:=omega) [zz]
 obtain⟨hrer1,hver1⟩:=hrow1.er
 refine qE (R:=fun y H'=>y=.tup []∧H'=[(R,X9 (jF ks) ta ea K asks waits over)]) ((R,qW ta ea buf K asks waits over)::H1) [(b,zF arg)] ?_ rfl (by simp[qQ]) (by simp) ?_ ?_
 ·refine List.perm_iff_count.2 fun a=>?_
  simp only[List.count_append,List.count_cons,List.count_nil]
  omega
 ·rw[q8.er_cons,hrer1,heo]
  have:=X5 R ks v' H1 hrow1 hl (Nat.le_trans hkl hn) ta ea buf K asks waits over h1 h2
  simpa[TV.er,AV.er,hver1,X9]using this
 rintro y H' ⟨rfl,rfl⟩ _
 refine⟨_,HSub.refl _,?_⟩
 simp (disch:=omega) [zz,Tryz.f107,hle]
 exact HSub.of_sub (List.Sublist.cons_cons _ (List.nil_sublist _))
end Go.Proofs.YtcgpcfcbienapaaGreatDoor
end
