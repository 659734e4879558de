/- The sort of digests. No condition beyond each theorem's own. -/
import Derived.Test.YtcioeonlclpacaaGreatDoorE1
import Derived.Test.YtcioeonlclpacaaGreatDoorShelf3
import Derived.Test.YtcioeonlclpacaaGreatDoorE3To
set_option linter.unusedSimpArgs false
set_option linter.unusedVariables false
set_option linter.unusedSectionVars false
section
set_option maxRecDepth 100000
namespace Go.Proofs.YtcioeonlclpacaaGreatDoor
open Go Go.Ab
open Classical
variable [Sel]
open Go.Sort (grow mapBlock putCells putRow ahead Holds onCells SWO PermIn SortedIn flatK get_flatK size_flatK HoldsK putRowK)
theorem zO1 {P:Program} {g:Gh} {w:World} {e:TypeId}:∀ {xs ys:List AV} {c:List Value},VL P g w e (xs++ys) c→∃c1 c2,c=c1++c2∧VL P g w e xs c1∧VL P g w e ys c2
 | [],ys,c,h=>⟨[],c,rfl,by simp[VL],h⟩
 | x::xs,ys,c,h=>by
  simp only[List.cons_append,VL]at h
  obtain⟨a,r,rfl,h1,h2⟩:=h
  obtain⟨c1,c2,rfl,h3,h4⟩:=zO1 h2
  exact⟨a++c1,c2,by simp,by simp only[VL];exact⟨a,c1,rfl,h1,h3⟩,h4⟩
def byC (d:List UInt8):List Value:=d.map fun b=>Value.int .u8 b.toNat
theorem zQG {P:Program} {g:Gh} {w:World} {e:TypeId} (he:qD P e=.int .u8):∀(d:List UInt8) (c:List Value),VL P g w e (byB d) c↔c=byC d
 | [],c=>by simp[byB,byC,VL]
 | b::d,c=>by
  have ih:=zQG (g:=g) (w:=w) he d
  simp only[byB,byC,List.map_cons,VL]at ih ⊢
  constructor
  ·rintro⟨c1,c2,rfl,h1,h2⟩
   rw[he]at h1
   simp only[VC]at h1
   rw[h1.2,(ih c2).1 h2];rfl
  ·rintro rfl
   exact⟨[_],_,rfl,by rw[he];simp[VC],(ih _).2 rfl⟩
theorem zNe {P:Program} {g:Gh} {w:World} {e:TypeId} (he:qD P e=.int .u8) (d:Dig) (c:List Value):VC P g w (.arr 32 e) (KW d) c↔d.length=32∧c=byC d:=by
 rw[zQh]
 simp only[VC,zOj,zQG he]
theorem zNn {P:Program} {g:Gh} {w:World} {D e:TypeId} (hD:qD P D=.arr 32 e) (he:qD P e=.int .u8):∀(ks:List Dig) (c:List Value),VL P g w D (ks.map KW) c↔(∀k∈ks,k.length=32)∧c=ks.flatMap byC
 | [],c=>by simp[VL]
 | k::ks,c=>by
  have ih:=zNn (g:=g) (w:=w) hD he ks
  simp only[List.map_cons,VL,List.flatMap_cons]
  constructor
  ·rintro⟨c1,c2,rfl,h1,h2⟩
   rw[hD,zNe he]at h1
   obtain⟨h3,h4⟩:=(ih c2).1 h2
   exact⟨fun x hx=>by
    rcases List.mem_cons.1 hx with rfl|hx
    ·exact h1.1
    ·exact h3 x hx,by rw[h1.2,h4]⟩
  ·rintro⟨h1,rfl⟩
   exact⟨_,_,rfl,by rw[hD,zNe he];exact⟨h1 k (by simp),rfl⟩,(ih _).2 ⟨fun x hx=>h1 x (List.mem_cons_of_mem _ hx),rfl⟩⟩
abbrev D32:={d:List UInt8 // d.length=32}
instance:Inhabited D32:=⟨⟨List.replicate 32 0,by simp⟩⟩
def cW (x:D32):List Value:=byC x.1
theorem zJM (x:D32):(cW x).length=32:=by simp[cW,byC,x.2]
theorem zNO:∀(l:List D32) (t:Nat),t<l.length*32→(l.flatMap cW)[t]?=some ((cW l[t / 32]!)[t % 32]!)
 | [],t,h=>by simp at h
 | x::l,t,h=>by
  rw[List.flatMap_cons]
  by_cases ht:t<32
  ·rw[List.getElem?_append_left (by rw[zJM];exact ht)]
   have e1:t / 32=0:=Nat.div_eq_of_lt ht
   have e2:t % 32=t:=Nat.mod_eq_of_lt ht
   rw[e1,e2]
   have e3:(x::l)[0]! = x:=rfl
   rw[e3,getElem!_pos (cW x) t (by rw[zJM];exact ht),List.getElem?_eq_getElem (by rw[zJM];exact ht)]
  ·have ih:=zNO l (t-32) (by simp at h;omega)
   rw[List.getElem?_append_right (by rw[zJM];omega),zJM,ih]
   have e1:t / 32=(t-32) / 32+1:=by omega
   have e2:t % 32=(t-32) % 32:=by omega
   rw[e1,e2]
   have e3:(x::l)[(t-32) / 32+1]! = l[(t-32) / 32]!:=by simp
   rw[e3]
theorem zMu (d:Array D32):(flatK cW 32 d).toList=d.toList.flatMap cW:=by
 have hlen:(d.toList.flatMap cW).length=d.size*32:=by
  have:∀l:List D32,(l.flatMap cW).length=l.length*32:=by
   intro l
   induction l with
   | nil=>rfl
   | cons x l ih=>rw[List.flatMap_cons,List.length_append,ih,zJM];simp;omega
  rw[this];simp
 apply List.ext_getElem?
 intro t
 by_cases ht:t<d.size*32
 ·rw[zNO _ t (by simpa using ht)]
  have h1:=get_flatK cW 32 d t ht
  rw[getElem!_pos (flatK cW 32 d) t (by simpa using ht)]at h1
  have hb:t / 32<d.size:=by omega
  rw[Array.getElem?_toList,Array.getElem?_eq_getElem (by simpa using ht),h1,getElem!_pos d (t / 32) hb,getElem!_pos d.toList (t / 32) (by simpa using hb)]
  rfl
 ·rw[List.getElem?_eq_none (by simp;omega),List.getElem?_eq_none (by rw[hlen];omega)]
theorem zMw (F cs:Array Value) (h:F.size≤cs.size):(putCells id 0 F cs).toList=F.toList++cs.toList.drop F.size:=by
 apply List.ext_getElem?
 intro t
 simp only[putCells,Array.getElem?_toList,Array.getElem?_mapIdx]
 by_cases ht:t<F.size
 ·rw[List.getElem?_append_left (by simpa using ht),Array.getElem?_eq_getElem (by omega),Option.map_some,if_pos ⟨Nat.zero_le _,by omega⟩]
  rw[Array.getElem?_toList,Array.getElem?_eq_getElem ht]
  simp[getElem!_pos F t ht]
 ·rw[List.getElem?_append_right (by simp;omega),List.getElem?_drop]
  have e1:F.size+(t-F.toList.length)=t:=by simp;omega
  rw[e1,Array.getElem?_toList]
  cases hc:cs[t]? with
  | none=>rfl
  | some y=>rw[Option.map_some,if_neg (by omega)]
theorem zLK {w:World} {b:Nat} {cs:Array Value} {E:TypeId} {fz:Nat × Nat} (hb:w.heap[b]?=some (.cells cs E fz)) (f:Array Value→Array Value):mapBlock w b f=w.setRow b (f cs):=by
 have hlt:=(Array.getElem?_eq_some_iff.1 hb).1
 unfold mapBlock World.setRow
 congr 1
 apply Array.ext_getElem?
 intro k
 simp only[Array.getElem?_modify]
 by_cases hk:b=k
 ·subst hk
  simp[hb,onCells]
 ·simp[hk]
theorem zE.grow {c:Ctx} {s:St} {a:Act} {w:World} {g:Gh} {β:Nat→Nat} (h:zE c s a w g β):∀(l:List Obj),zE c s a (Go.Sort.grow w l.toArray) g β:=by
 intro l
 induction l generalizing w with
 | nil=>simpa using h
 | cons o l ih =>
  have h1:=h.push o 0 (by omega)
  have eg:({ g with imm:=upd g.imm w.heap.size 0 }:Gh)=g:=by
   have:upd g.imm w.heap.size 0=g.imm:=by
    funext b;simp only[upd];split
    ·rename_i e;rw[e,QC h.rep.imm (Nat.le_refl _)]
    ·rfl
   rw[this]
  rw[eg]at h1
  have h2:=ih h1
  have e2:Go.Sort.grow (World.push' w o) l.toArray=Go.Sort.grow w (o::l).toArray:=by
   unfold Go.Sort.grow World.push'
   simp only[World.mk.injEq,and_true]
   apply Array.toList_inj.1
   simp only[Array.toList_append,Array.toList_push,List.append_assoc,List.cons_append,List.nil_append]
  rw[e2]at h2
  exact h2

def zQO (x y:D32):Int:=Lib.compareBytes x.1 y.1
theorem zSK:SWO (ltOf zQO) where
 irrefl x:=zOH x.1
 trans x y z h1 h2:=zKQ h1 h2
 ntrans x y z h1 h2:=zOi h1 h2
def zSx (f:Nat):Prop:=Enters Tryz.prog f∧∀ [Sel] (a b:Dig),a.length=32→b.length=32→PC Tryz.prog f [.av (.arr 32 5) (KW a),.av (.arr 32 5) (KW b)] (.av (.int .i64) (.i .i64 (Lib.compareBytes a b)))
theorem zOt {f:Nat} (hf:∀ [Sel] (a b:Dig),a.length=32→b.length=32→PC Tryz.prog f [.av (.arr 32 5) (KW a),.av (.arr 32 5) (KW b)] (.av (.int .i64) (.i .i64 (Lib.compareBytes a b)))) (b size:Nat) (w:World):CmpLays Tryz.prog f #[] cW 32 zQO b 0 size w:=by
 intro m os dk _ x y
 letI:Sel:=⟨fun n=>n == "+drawn"⟩
 have h:=hf x.1 y.1 x.2 y.2
 generalize sortWorldK cW 32 w b 0 m dk os=W
 have htab:xV Tryz.prog (fun _=>0) W:=by
  refine⟨fun n d x hx=>?_,fun n hn=>?_,fun n hn=>?_⟩
  ·unfold zcT at hx
   obtain⟨k,_,hk⟩:=List.mem_filterMap.1 hx
   split at hk
   ·rename_i gl _
    split at hk
    ·rename_i ho
     have e:gl.name = "+drawn":=by
      have:(gl.name == "+drawn")=true:=ho
      simpa using this
     rw[e]at hk
     have e2:zjo "+drawn" = none:=by decide
     rw[e2]at hk;cases hk
    ·cases hk
   ·cases hk
  ·unfold zbW at hn
   have hh:=(List.mem_filter.1 hn).2
   split at hh
   ·rename_i gl _
    rw[Bool.and_eq_true]at hh
    obtain⟨ho,hh⟩:=hh
    have e:gl.name = "+drawn":=by
     have:(gl.name == "+drawn")=true:=ho
     simpa using this
    rw[e]at hh
    exact absurd hh (by decide)
   ·cases hh
  ·unfold uM at hn
   have hh:=(List.mem_filter.1 hn).2
   split at hh
   ·rename_i gl _
    rw[Bool.and_eq_true]at hh
    obtain⟨ho,hh⟩:=hh
    have e:gl.name = "+drawn":=by
     have:(gl.name == "+drawn")=true:=ho
     simpa using this
    rw[e]at hh
    exact absurd hh (by decide)
   ·cases hh
 have hrep:Rep Tryz.prog (g0 fun _=>0) W []:=⟨fun b hb=>by simp[g0]at hb,List.nodup_nil,by simp,htab⟩
 have hargs:ARs Tryz.prog (g0 fun _=>0) W [.av (.arr 32 5) (KW x.1),.av (.arr 32 5) (KW y.1)] (#[Value.agg (cW x).toArray,Value.agg (cW y).toArray]++(#[]:Array Value)).toList:=by
  have one:∀z:D32,AR Tryz.prog (g0 fun _=>0) W (.av (.arr 32 5) (KW z.1)) (Value.agg (cW z).toArray):=fun z =>
   ⟨rfl,(zNe (ty5) z.1 _).2 ⟨z.2,by simp[Value.cells,cW]⟩⟩
  exact⟨one x,one y,trivial⟩
 refine(h (fun _=>0) W _ hrep hargs).mono ?_
 rintro e w' ⟨v,r,imm',H',rfl,⟨rfl,rfl⟩,hv,_,st⟩
 have hv':v=.int .i64 (zQO x y):=by
  obtain⟨f,hv⟩:=hv
  simp only[VC]at hv
  rw[qR rfl f]at hv
  simpa[zQO]using hv
 refine⟨by rw[hv'],w'.drawn-W.drawn,(w'.heap.toList.drop W.heap.size).toArray,?_⟩
 have hd:=st.drawn rfl
 have hh:W.heap++(w'.heap.toList.drop W.heap.size).toArray=w'.heap:=by
  apply Array.toList_inj.1
  rw[Array.toList_append]
  apply List.ext_getElem?
  intro t
  by_cases ht:t<W.heap.size
  ·rw[List.getElem?_append_left (by simpa using ht)]
   have:=(st.frame t ht (by simp[q8.keys])).1
   simpa using this.symm
  ·rw[List.getElem?_append_right (by simp;omega),List.getElem?_drop]
   congr 1
   simp;omega
 obtain⟨h1,h2,h3,h4,h5⟩:=w'
 simp only at hd hh
 unfold Go.Sort.grow World.drewN
 simp only[World.mk.injEq]
 exact⟨hh.symm,st.tape,by omega,st.os,st.output⟩
theorem zSC {P:Program} {g:Gh} {w:World} {f:FuncId} {v:Value} (h:VV P g w .func (.fn f []) v):v=.func (.func f) #[] #[]:=by
 obtain⟨f',h⟩:=h
 simp only[VC,VA]at h
 obtain⟨_,vs,h1,h2⟩:=h
 rw[qR rfl f']at h1
 subst h2
 simpa using h1
theorem zRJ {f:Nat} (hfe:zSx f) (ks:List Dig) (hk:∀k∈ks,k.length=32) (b cap:Nat) (j:List AV) (hcap:ks.length+j.length=cap) (hn:ks.length≤1000000) :
  q7 Tryz.prog 130 [.av (.slice 46) (.msl b 46 0 ks.length cap),.av .func (.fn f [])] [(b,.var (.arr cap 46) (.agg (ks.map KW++j)))]
   fun r H'=>r=.tup []∧∃ks':List Dig,ks'.Perm ks∧ks'.Pairwise (fun x y=>ltL y x=false)∧H'=[(b,.var (.arr cap 46) (.agg (ks'.map KW++j)))]:=by
 intro imm w vs hrep hargs
 obtain⟨vs⟩:=vs
 match vs,hargs with
 | [v1,v2],⟨h1,h2,_⟩ =>
  have e2:=zSC h2
  obtain⟨f1,h1⟩:=h1
  simp only[VC]at h1
  obtain⟨_,h1⟩:=h1
  rw[qR rfl f1,Nat.zero_mul]at h1
  have e1:v1=.slice (some ⟨b,0,none⟩) ks.length cap:=by simpa using h1
  subst e1;subst e2
  obtain⟨h0,cs,hcs,hvc⟩:=hrep.obj b (.var (.arr cap 46) (.agg (ks.map KW++j))) (by simp)
  obtain⟨E,fz,hb,hfz⟩:=x4 hcs (by rw[zHS];simp)
  simp only[VC]at hvc
  obtain⟨hm,hvl⟩:=hvc
  obtain⟨c1,c2,hcc,hv1,hv2⟩:=zO1 hvl
  have hDt:=zHS
  have hut:=ty5
  rw[zNn hDt hut]at hv1
  obtain⟨_,rfl⟩:=hv1
  obtain⟨d,hd⟩:∃d:Array D32,d.toList.map (·.1)=ks:=⟨(ks.attach.map fun k=>(⟨k.1,hk k.1 k.2⟩:D32)).toArray,by simp[List.map_map,Function.comp_def]⟩
  have hds:d.size=ks.length:=by rw[←hd];simp
  have hfm:ks.flatMap byC=d.toList.flatMap cW:=by rw[←hd,List.flatMap_map];rfl
  have hfl:(flatK cW 32 d).toList=ks.flatMap byC:=by rw[zMu,hfm]
  have hfs:(flatK cW 32 d).size=ks.length*32:=by simp[hds]
  have hle:(flatK cW 32 d).size≤cs.size:=by
   rw[←Array.length_toList,←Array.length_toList (xs:=cs),hcc,hfl];simp
  have hlt:b<w.heap.size:=(Array.getElem?_eq_some_iff.1 hb).1
  have hH:HoldsK cW 32 w b 0 d:=by
   intro t ht
   rw[Nat.zero_add]
   refine⟨?_,?_⟩
   ·rw[KG hb]
    have e3:cs[t]?=cs.toList[t]?:=by simp
    rw[e3,hcc,←hfl,List.getElem?_append_left (by simpa using ht),Array.getElem?_toList,Array.getElem?_eq_getElem ht,getElem!_pos _ t ht]
    rfl
   ·simp only[World.frozen?,hb,Bool.and_eq_false_iff,decide_eq_false_iff_not]
    omega
  have hcall:=AnyQ.slices_SortFunc Tryz.sortD 32 Tryz.isAgg46 Tryz.sizeOf46 cW zJM (fun x v hv=>by
    obtain⟨z,_,rfl⟩:=List.mem_map.1 hv;rfl) zQO zSK f #[] b 0 cap d w
   hfe.1 (zOt hfe.2 b d.size w) hH hlt (by omega)
  rw[hds]at hcall
  refine Calls.mono hcall ?_
  rintro e w' ⟨rfl,d',n,os,hperm,hsort,rfl⟩
  have hds':d'.size=ks.length:=hperm.1.trans hds
  have hpl:d'.toList.Perm d.toList:=by
   have:=hperm.2.2
   have e1:d'.extract 0 ks.length=d':=by rw[←hds'];simp
   have e2:d.extract 0 ks.length=d:=by rw[←hds];simp
   rwa[e1,e2]at this
  have hfl':(flatK cW 32 d').toList=(d'.toList.map (·.1)).flatMap byC:=by rw[zMu,List.flatMap_map];rfl
  have hfs':(flatK cW 32 d').size=(flatK cW 32 d).size:=by simp[hds,hds']
  have hS:zE ⟨Tryz.prog,0,imm,[(b,.var (.arr cap 46) (.agg (ks.map KW++j)))],w,none⟩ { env:=fun _=>.junk,loc:=fun _=>none,ver:=fun _=>0,H:=[(b,.var (.arr cap 46) (.agg (ks.map KW++j)))] } { tmps:=#[],defers:=[] } w (g0 imm) (fun _=>0):={
   defers:=⟨rfl,List.nodup_nil,fun D hD=>by simp at hD⟩
   size:=rfl
   env:=fun t=>trivial
   locs:=fun k d x e=>by simp at e
   inj:=fun k j e=>by simp at e
   rep:=hrep
   toks:=fun k t e=>by simp[g0]at e
   tokd:=fun k k' t t' e=>by simp[g0]at e
   toknew:=fun k v _=>rfl
   step:=JI.refl }
  have hS1:=hS.drew (w.drawn+n) (Nat.le_add_right _ _)
  have hS2:=hS1.setH (b:=b) (d:=.arr cap 46) (x:=.agg (ks.map KW++j)) (y:=.agg ((d'.toList.map (·.1)).map KW++j)) (cs:=putCells id 0 (flatK cW 32 d') cs) (by simp[jM]) hcs (by simp[putCells]) (by
   rw[zMw _ _ (by rw[hfs'];exact hle),hfs',hfl',hcc,←hfl]
   have e4:((flatK cW 32 d).toList++c2).drop (flatK cW 32 d).size=c2:=by
    rw[List.drop_append,List.drop_of_length_le (by simp)];simp
   rw[e4]
   simp only[VC]
   refine⟨by rw[List.length_append,List.length_map,List.length_map,Array.length_toList,hds'];exact hcap,wE ((zNn hDt hut _ _).2 ⟨fun k hk=>?_,rfl⟩) (ZU (w':={ w with drawn:=w.drawn+n }) (Gh.le_refl _) hrep.imm (fun b cs E fz _ hb=>⟨cs,E,fz,hb,rfl,fun _ _=>rfl⟩) _ _ _ hv2)⟩
   obtain⟨z,_,rfl⟩:=List.mem_map.1 hk
   exact z.2)
  have hS3:=zE.grow hS2 os.toList
  have ew:Go.Sort.grow (World.setRow { w with drawn:=w.drawn+n } b (putCells id 0 (flatK cW 32 d') cs)) os.toList.toArray=sortWorldK cW 32 w b 0 n d' os:=by
   unfold sortWorldK putRowK putRow
   rw[zLK (w:=Go.Sort.ahead w n) (b:=b) (cs:=cs) (E:=E) (fz:=fz) hb]
   simp[Go.Sort.ahead]
  rw[ew]at hS3
  have eh:W1 [(b,HObj.var (.arr cap 46) (.agg (ks.map KW++j)))] b (.var (.arr cap 46) (.agg ((d'.toList.map (·.1)).map KW++j)))=[(b,.var (.arr cap 46) (.agg ((d'.toList.map (·.1)).map KW++j)))]:=by simp[W1]
  refine⟨.tuple #[],.tup [],imm,[(b,.var (.arr cap 46) (.agg ((d'.toList.map (·.1)).map KW++j)))],rfl,⟨rfl,d'.toList.map (·.1),?_,?_,rfl⟩,⟨[],rfl,trivial⟩,?_,?_⟩
  ·rw[←hd];exact hpl.map _
  ·rw[List.pairwise_map]
   rw[List.pairwise_iff_getElem]
   intro i k hi hk hik
   have:=hsort i k (Nat.zero_le _) hik (by simpa[hds']using hk)
   simp only[Array.length_toList]at hi hk
   rw[getElem!_pos d' k hk,getElem!_pos d' i hi]at this
   exact this
  ·have:=hS3.rep
   simp only[eh]at this
   exact this
  ·have:=hS3.step
   simp only[eh]at this
   exact this
end Go.Proofs.YtcioeonlclpacaaGreatDoor
end
section
set_option maxRecDepth 100000
namespace Go.Proofs.YtcioeonlclpacaaGreatDoor
open Go Go.Ab
open Classical
variable [Sel]
@[simp] theorem zol:qZ Tryz.prog 65=true:=by kernel_rfl
@[simp] theorem zrI:z8 Tryz.prog (.func 65)=false:=q9 zol
@[simp] theorem zlg:qZ Tryz.prog 130=true:=by kernel_rfl
@[simp] theorem zq2:z8 Tryz.prog (.func 130)=false:=q9 zlg
theorem zOg {f:Nat}:q7 Tryz.prog 130 [.av DgS .nsl,.av .func (.fn f [])] [] fun r H'=>r=.tup []∧H'=[]:=by
 intro imm w vs hrep hargs
 obtain⟨vs⟩:=vs
 match vs,hargs with
 | [v1,v2],⟨h1,h2,_⟩ =>
  obtain⟨f1,h1⟩:=h1
  simp only[VC]at h1
  obtain⟨_,_,h1⟩:=h1
  rw[qR rfl f1]at h1
  have e1:v1=.slice none 0 0:=by simpa using h1
  subst e1
  have hcall:=AnyF.slices_SortFunc_none Tryz.sortD none 0 v2 w
  refine Calls.mono hcall ?_
  rintro e w' ⟨rfl,rfl⟩
  exact⟨.tuple #[],.tup [],imm,[],rfl,⟨rfl,rfl⟩,⟨[],rfl,trivial⟩,hrep,JI.refl⟩
def KO (ks ks':List Dig):Prop:=ks'.Perm ks∧ks'.Pairwise (fun x y=>ltL y x=false)
def sR (ks:List Dig) (rest:q8) (r:TV) (H':q8):Prop :=
 ∃ks',KO ks ks'∧((ks'=[]∧r=.av DgS .nsl∧H'=rest)∨∃b cap j,JK j∧ks'.length+j.length=cap∧r=.av DgS (.msl b 46 0 ks'.length cap)∧H'=(b,zKw cap ks' j)::rest)
set_option maxHeartbeats 4000000 in
theorem zMy {f:Nat} (hfe:zSx f) {g c:Nat} {T:TyD} {HS:q8} {ks:List Dig} (hs:zRp g c T HS ks) (hlen:ks.length≤1000000) (h32:∀k∈ks,k.length=32) :
  q7 Tryz.prog 65 [.av .func (.fn g [.ptr c T []]),.av .func (.fn f [])] HS (sR ks HS):=by
 have hse:=hs.2.1
 refine zov Tryz.func65 cf0 fun imm0 w0=>?_
 simp (disch:=omega) [zz]
 refine jP (R:=kR ks HS) rfl (by simp[qQ]) (by simp) ?_ ?_
 ·have:=zOd hs hlen
  simpa[TV.er,AV.er,AV.ers,hse]using this
 rintro r' H0 ⟨done,hp,⟨rfl,rfl,rfl⟩|⟨b,cap,j,hj,hcap,rfl,rfl⟩⟩
 ·simp (disch:=omega) [zz]
  refine qE (R:=fun r H'=>r=.tup []∧H'=[]) [] H0 (List.Perm.refl _) rfl (by simp[qQ]) (by simp) ?_ ?_
  ·have:=zOg (f:=f)
   simpa[TV.er,AV.er,AV.ers,q8.er_nil]using this
  rintro r' H' ⟨rfl,rfl⟩ _
  refine⟨_,HSub.refl _,?_⟩
  simp (disch:=omega) [zz,hse,Tryz.f65]
  exact⟨[],⟨hp,List.Pairwise.nil⟩,.inl ⟨rfl,rfl,rfl⟩⟩
 ·have hkr:=fun ks=>zLo (cap:=cap) (ks:=ks) hj
  have hd32:∀k∈done,k.length=32:=fun k hk=>h32 k (hp.mem_iff.1 hk)
  have hdl:done.length=ks.length:=hp.length_eq
  simp (disch:=omega) [zz]
  refine qE (R:=fun r H'=>r=.tup []∧∃ks':List Dig,ks'.Perm done∧ks'.Pairwise (fun x y=>ltL y x=false)∧H'=[(b,zKw cap ks' j)]) [(b,zKw cap done j)] HS (List.Perm.refl _) rfl (by simp[qQ]) (by simp) ?_ ?_
  ·have:=zRJ hfe done hd32 b cap j hcap (by omega)
   have e:q8.er [(b,zKw cap done j)]=[(b,zKw cap done j)]:=by rw[q8.er_cons,hkr];rfl
   rw[e]
   simpa[TV.er,AV.er,AV.ers,zKw]using this
  rintro r' H' ⟨rfl,ks',hp',hs',rfl⟩ _
  refine⟨_,HSub.refl _,?_⟩
  have hkl:ks'.length=done.length:=hp'.length_eq
  simp (disch:=omega) [zz,hse,hkr,Tryz.f65]
  exact⟨ks',⟨hp'.trans hp,hs'⟩,.inr ⟨b,cap,j,hj,by omega,by rw[hkl],rfl⟩⟩
theorem zSz (cs:List Cel):(mpO (cs.map zt1)).er=mpO (cs.map zt1):=by
 have hek:=zL8 cs
 unfold EK at hek
 simp only[mpO,HObj.er_map,hek]
theorem zRf (c M:Nat) (hcM:c≠M) (cs:List Cel):zRp 131 c MpT [(M,mpO (cs.map zt1)),(c,mbO M)] (cs.map (·.key)) :=
 ⟨by simp,by simp only[q8.er_cons,q8.er_nil,zSz cs];rfl,fun G y hGe hY H hG=>zQr y c M hcM cs hGe (fun done k H _ h2 h3=>hY done k H (by simpa using h2) h3) H hG⟩
@[simp] theorem znY:qZ Tryz.prog 25=true:=by kernel_rfl
@[simp] theorem zsp:z8 Tryz.prog (.func 25)=false:=q9 znY
theorem zQm:zSx 67:=⟨enters_of Tryz.func67 (by kernel_rfl) rfl,fun a b h1 h2=>zPn a b h1 h2⟩
set_option maxHeartbeats 4000000 in
theorem zPV (B M mo:Nat) (hBM:B≠M) (cs:List Cel) (hlen:cs.length≤1000000) (h32:∀c∈cs,c.key.length=32) :
  q7 Tryz.prog 25 [.av .ptr (.ptr B DbT [])] [(B,dbO M mo),(M,mpO (cs.map zt1))] fun r H'=>∃rest H2,sR (cs.map (·.key)) rest r H2∧Ab.HSub H2 H'∧rest=[(B,dbO M mo),(M,mpO (cs.map zt1))]:=by
 have hMB:¬M=B:=fun e=>hBM e.symm
 have hek:=zL8 cs
 unfold EK at hek
 have hme:(mpO (cs.map zt1)).er=mpO (cs.map zt1):=by simp only[mpO,HObj.er_map,hek]
 refine zov Tryz.func25 cf0 fun imm0 w0=>?_
 (simp (maxSteps:=2000000) (disch:=first|omega|assumption) [zz,-List.reduceReplicate,dbO])
 refine qE (R:=fun r H'=>∃c,r=.av .func (.fn 131 [.ptr c MpT []])∧H'=[(c,mbO M)]) [] [(B,dbO M mo),(M,mpO (cs.map zt1))] (List.Perm.refl _) rfl (by simp[qQ]) (by simp) ?_ ?_
 ·have:=zR5 M
  simpa[TV.er,AV.er,AV.ers,q8.er_nil]using this
 rintro r' H' ⟨c,rfl,rfl⟩ hnd
 simp[q8.keys]at hnd
 refine⟨[(c,mbO M),(B,dbO M mo),(M,mpO (cs.map zt1))],HSub.refl _,?_⟩
 (simp (maxSteps:=2000000) (disch:=first|omega|assumption) [zz,-List.reduceReplicate])
 refine qE (R:=sR (cs.map (·.key)) [(M,mpO (cs.map zt1)),(c,mbO M)]) [(M,mpO (cs.map zt1)),(c,mbO M)] [(B,dbO M mo)] ((List.perm_append_comm (l₁:=[_,_]) (l₂:=[_])).trans (List.Perm.cons _ (List.Perm.refl _))) rfl (by simp[qQ]) (by simp) ?_ ?_
 ·have:=zMy zQm (zRf c M hnd.1.2 cs) (by simpa using hlen) (fun k hk=>by obtain⟨c,hc,rfl⟩:=List.mem_map.1 hk;exact h32 c hc)
  simpa[TV.er,AV.er,AV.ers,q8.er_cons,q8.er_nil,hme,mbO]using this
 rintro r' H' ⟨ks',hko,⟨rfl,rfl,rfl⟩|⟨b,cap,j,hj,hcap,rfl,rfl⟩⟩ _
 ·refine⟨[(B,dbO M mo),(M,mpO (cs.map zt1))],⟨_,List.perm_append_comm (l₁:=[_,_]),?_⟩,?_⟩
  ·exact((List.nil_sublist _).cons_cons _).cons_cons _
  (simp (maxSteps:=2000000) (disch:=first|omega|assumption) [zz,-List.reduceReplicate,hme,dbO,Tryz.f25])
  exact⟨_,_,⟨[],hko,.inl ⟨rfl,rfl,rfl⟩⟩,HSub.refl _,rfl⟩
 ·refine⟨[(b,zKw cap ks' j),(B,dbO M mo),(M,mpO (cs.map zt1))],⟨_,List.Perm.cons _ (List.perm_append_comm (l₁:=[_,_])),?_⟩,?_⟩
  ·exact(((List.nil_sublist _).cons_cons _).cons_cons _).cons_cons _
  have hkr:=zLo (cap:=cap) (ks:=ks') hj
  (simp (maxSteps:=2000000) (disch:=first|omega|assumption) [zz,-List.reduceReplicate,hme,dbO,hkr,Tryz.f25])
  exact⟨_,_,⟨ks',hko,.inr ⟨b,cap,j,hj,hcap,rfl,rfl⟩⟩,HSub.refl _,rfl⟩
theorem zPz (B M mo:Nat) (cs:List Cel) (hlen:cs.length≤1000000) (h32:∀c∈cs,c.key.length=32) :
  q7 Tryz.prog 25 [.av .ptr (.ptr B DbT [])] (DbH B M mo cs) fun r H'=>∃ks',KO (cs.map (·.key)) ks'∧r=.av DgS (qO ks')∧H'=DbH B M mo cs:=by
 refine q7.nodup fun hnd=>?_
 obtain⟨hBM,hbs⟩:=zOG hnd
 have h1:q7 Tryz.prog 25 [.av .ptr (.ptr B DbT [])] [(B,dbO M mo),(M,mpO (cs.map zt1))] fun r H'=>∃ks',KO (cs.map (·.key)) ks'∧r=.av DgS (qO ks')∧H'=[(B,dbO M mo),(M,mpO (cs.map zt1))]:=by
  have g1:=q7.sub (R':=sR (List.map Cel.key cs) [(B,dbO M mo),(M,mpO (cs.map zt1))]) (zPV B M mo hBM cs hlen h32) (by
   rintro r H' ⟨rest,H2,h1,h2,rfl⟩ _
   exact⟨H2,h2,h1⟩)
  have g2:=q7.nilR (R':=fun r H'=>∃ks':List Dig,KO (List.map Cel.key cs) ks'∧((ks'=[]∧r=.av DgS (.sl .no [])∧H'=[(B,dbO M mo),(M,mpO (cs.map zt1))])∨∃b cap j,JK j∧ks'.length+j.length=cap∧r=.av DgS (.msl b 46 0 ks'.length cap)∧H'=(b,zKw cap ks' j)::[(B,dbO M mo),(M,mpO (cs.map zt1))])) g1 (by
   rintro r H' ⟨ks',hko,⟨rfl,rfl,rfl⟩|h⟩
   ·exact .inr ⟨_,rfl,[],hko,.inl ⟨rfl,rfl,rfl⟩⟩
   ·exact .inl ⟨ks',hko,.inr h⟩)
  refine g2.freeze laid ?_
  rintro r H' ⟨ks',hko,⟨rfl,rfl,rfl⟩|⟨b,cap,j,hj,hcap,rfl,rfl⟩⟩ _
  ·exact .inr ⟨[],hko,rfl,rfl⟩
  ·refine .inl ⟨b,cap,46,ks'.map KW++j,_,List.Perm.refl _,ks',hko,?_,rfl⟩
   have htk:(ks'.map KW++j).take ks'.length=ks'.map KW:=by rw[List.take_append_of_le_length (by simp)];exact List.take_of_length_le (by simp)
   simp[zho,fzA,hcap,htk,qO]
   omega
 refine q7.use (Hs:=[(B,dbO M mo),(M,mpO (cs.map zt1))]) (rest:=cs.map zLb) (List.Perm.refl _) h1 ?_
 rintro r H1 ⟨ks',hko,rfl,rfl⟩ _
 exact⟨_,HSub.refl _,ks',hko,rfl,rfl⟩
end Go.Proofs.YtcioeonlclpacaaGreatDoor
end
