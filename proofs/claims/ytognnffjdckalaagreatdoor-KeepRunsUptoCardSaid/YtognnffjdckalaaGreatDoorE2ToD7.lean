/- The sort of digests. No condition. -/
import Derived.Test.YtognnffjdckalaaGreatDoorShelf3
import Derived.Test.YtognnffjdckalaaGreatDoorD5ToE3
set_option linter.unusedSimpArgs false
set_option linter.unusedVariables false
set_option linter.unusedSectionVars false
set_option maxHeartbeats 64000000
section
set_option maxRecDepth 100000
namespace Go.Proofs.YtognnffjdckalaaGreatDoor
open Go Go.Ab
open Classical
open Go.Sort (grow mapBlock putCells putRow ahead Holds onCells SWO PermIn SortedIn flatK get_flatK size_flatK HoldsK putRowK)
section
variable [Sel]
theorem zfS {P:Program} {g:Gh} {w:World} {e:TypeId}:∀ {xs ys:List AV} {c:List Value},VL P g w e (xs++ys) c->∃c1 c2,c=c1++c2/\VL P g w e xs c1/\VL P g w e ys c2
 | [],ys,c,h=>⟨[],c,rfl,by simp[VL],h⟩
 | x::xs,ys,c,h=>by
  simp only[List.cons_append,VL]at h
  obtain⟨a,r,rfl,h1,h2⟩:=h
  obtain⟨c1,c2,rfl,h3,h4⟩:=zfS h2
  exact⟨a++c1,c2,by simp,by simp only[VL];exact⟨a,c1,rfl,h1,h3⟩,h4⟩
def byC (d:List UInt8):List Value:=d.map fun b=>Value.int .u8 b.toNat
theorem zmI {P:Program} {g:Gh} {w:World} {e:TypeId} (he:q8 P e=.int .u8):∀(d:List UInt8) (c:List Value),VL P g w e (byB d) c<->c=byC d
 | [],c=>by simp[byB,byC,VL]
 | b::d,c=>by
  have ih:=zmI (g:=g) (w:=w) he d
  simp only[byB,byC,List.map_cons,VL]at ih |-
  constructor
  ·rintro⟨c1,c2,rfl,h1,h2⟩
   rw[he]at h1
   simp only[VC]at h1
   rw[h1.2,(ih c2).1 h2];rfl
  ·rintro rfl
   exact⟨[_],_,rfl,by rw[he];simp[VC],(ih _).2 rfl⟩
theorem zea {P:Program} {g:Gh} {w:World} {e:TypeId} (he:q8 P e=.int .u8) (d:Dig) (c:List Value):VC P g w (.arr 32 e) (qK d) c<->d.length=32/\c=byC d:=by
 rw[znS]
 simp only[VC,zgU,zmI he]
theorem zep {P:Program} {g:Gh} {w:World} {D e:TypeId} (hD:q8 P D=.arr 32 e) (he:q8 P e=.int .u8):∀(ks:List Dig) (c:List Value),VL P g w D (ks.map qK) c<->(∀k∈ks,k.length=32)/\c=ks.flatMap byC
 | [],c=>by simp[VL]
 | k::ks,c=>by
  have ih:=zep (g:=g) (w:=w) hD he ks
  simp only[List.map_cons,VL,List.flatMap_cons]
  constructor
  ·rintro⟨c1,c2,rfl,h1,h2⟩
   rw[hD,zea he]at h1
   obtain⟨h3,h4⟩:=(ih c2).1 h2
   exact⟨fun x hx=>by
    rcases List.mem_cons.1 hx with rfl|hx
    ·exact h1.1
    ·exact h3 x hx,by rw[h1.2,h4]⟩
  ·rintro⟨h1,rfl⟩
   exact⟨_,_,rfl,by rw[hD,zea he];exact⟨h1 k (by simp),rfl⟩,(ih _).2 ⟨fun x hx=>h1 x (List.mem_cons_of_mem _ hx),rfl⟩⟩
abbrev D32:={d:List UInt8 // d.length=32}
instance:Inhabited D32:=⟨⟨List.replicate 32 0,by simp⟩⟩
def y3 (x:D32):List Value:=byC x.1
theorem K9 (x:D32):(y3 x).length=32:=by simp[y3,byC,x.2]
theorem zgO:∀(l:List D32) (t:Nat),t<l.length*32->(l.flatMap y3)[t]?=some ((y3 l[t / 32]!)[t % 32]!)
 | [],t,h=>by simp at h
 | x::l,t,h=>by
  rw[List.flatMap_cons]
  by_cases ht:t<32
  ·rw[List.getElem?_append_left (by rw[K9];exact ht)]
   have e1:t / 32=0:=Nat.div_eq_of_lt ht
   have e2:t % 32=t:=Nat.mod_eq_of_lt ht
   rw[e1,e2]
   have e3:(x::l)[0]! = x:=rfl
   rw[e3,getElem!_pos (y3 x) t (by rw[K9];exact ht),List.getElem?_eq_getElem (by rw[K9];exact ht)]
  ·have ih:=zgO l (t-32) (by simp at h;omega)
   rw[List.getElem?_append_right (by rw[K9];omega),K9,ih]
   have e1:t / 32=(t-32) / 32+1:=by omega
   have e2:t % 32=(t-32) % 32:=by omega
   rw[e1,e2]
   have e3:(x::l)[(t-32) / 32+1]! = l[(t-32) / 32]!:=by simp
   rw[e3]
theorem zal (d:Array D32):(flatK y3 32 d).toList=d.toList.flatMap y3:=by
 have hlen:(d.toList.flatMap y3).length=d.size*32:=by
  have:∀l:List D32,(l.flatMap y3).length=l.length*32:=by
   intro l
   induction l with
   | nil=>rfl
   | cons x l ih=>rw[List.flatMap_cons,List.length_append,ih,K9];simp;omega
  rw[this];simp
 apply List.ext_getElem?
 intro t
 by_cases ht:t<d.size*32
 ·rw[zgO _ t (by simpa using ht)]
  have h1:=get_flatK y3 32 d t ht
  rw[getElem!_pos (flatK y3 32 d) t (by simpa using ht)]at h1
  have hb:t / 32<d.size:=by omega
  rw[Array.getElem?_toList,Array.getElem?_eq_getElem (by simpa using ht),h1,getElem!_pos d (t / 32) hb,getElem!_pos d.toList (t / 32) (by simpa using hb)]
  rfl
 ·rw[List.getElem?_eq_none (by simp;omega),List.getElem?_eq_none (by rw[hlen];omega)]
theorem zbH (F cs:Array Value) (h:F.size<=cs.size):(putCells id 0 F cs).toList=F.toList++cs.toList.drop F.size:=by
 apply List.ext_getElem?
 intro t
 simp only[putCells,Array.getElem?_toList,Array.getElem?_mapIdx]
 by_cases ht:t<F.size
 ·rw[List.getElem?_append_left (by simpa using ht),Array.getElem?_eq_getElem (by omega),Option.map_some,if_pos ⟨Nat.zero_le _,by omega⟩]
  rw[Array.getElem?_toList,Array.getElem?_eq_getElem ht]
  simp[getElem!_pos F t ht]
 ·rw[List.getElem?_append_right (by simp;omega),List.getElem?_drop]
  have e1:F.size+(t-F.toList.length)=t:=by simp;omega
  rw[e1,Array.getElem?_toList]
  cases hc:cs[t]? with
  | none=>rfl
  | some y=>rw[Option.map_some,if_neg (by omega)]
theorem DY {w:World} {b:Nat} {cs:Array Value} {E:TypeId} {fz:Nat × Nat} (hb:w.heap[b]?=some (.cells cs E fz)) (f:Array Value->Array Value):mapBlock w b f=w.setRow b (f cs):=by
 have hlt:=(Array.getElem?_eq_some_iff.1 hb).1
 unfold mapBlock World.setRow
 congr 1
 apply Array.ext_getElem?
 intro k
 simp only[Array.getElem?_modify]
 by_cases hk:b=k
 ·subst hk
  simp[hb,onCells]
 ·simp[hk]
theorem qX.grow {c:Ctx} {s:St} {a:Act} {w:World} {g:Gh} {β:Nat->Nat} (h:qX c s a w g β):∀(l:List Obj),qX c s a (Go.Sort.grow w l.toArray) g β:=by
 intro l
 induction l generalizing w with
 | nil=>simpa using h
 | cons o l ih =>
  have h1:=h.push o 0 (by omega)
  have eg:({ g with imm:=upd g.imm w.heap.size 0 }:Gh)=g:=by
   have:upd g.imm w.heap.size 0=g.imm:=by
    funext b;simp only[upd];split
    ·rename_i e;rw[e,Q6 h.rep.imm (Nat.le_refl _)]
    ·rfl
   rw[this]
  rw[eg]at h1
  have h2:=ih h1
  have e2:Go.Sort.grow (World.push' w o) l.toArray=Go.Sort.grow w (o::l).toArray:=by
   unfold Go.Sort.grow World.push'
   simp only[World.mk.injEq,and_true]
   apply Array.toList_inj.1
   simp only[Array.toList_append,Array.toList_push,List.append_assoc,List.cons_append,List.nil_append]
  rw[e2]at h2
  exact h2
def zms (x y:D32):Int:=Lib.compareBytes x.1 y.1
theorem zs2:SWO (ltOf zms) where
 irrefl x:=CF x.1
 trans x y z h1 h2:=xW h1 h2
 ntrans x y z h1 h2:=zho h1 h2
def zoS (f:Nat):Prop:=Enters Tryz.prog f/\∀ [Sel] (a b:Dig),a.length=32->b.length=32->PC Tryz.prog f [.av (.arr 32 5) (qK a),.av (.arr 32 5) (qK b)] (.av (.int .i64) (.i .i64 (Lib.compareBytes a b)))
theorem zig {f:Nat} (hf:∀ [Sel] (a b:Dig),a.length=32->b.length=32->PC Tryz.prog f [.av (.arr 32 5) (qK a),.av (.arr 32 5) (qK b)] (.av (.int .i64) (.i .i64 (Lib.compareBytes a b)))) (b size:Nat) (w:World):CmpLays Tryz.prog f #[] y3 32 zms b 0 size w:=by
 intro m os dk _ x y
 letI:Sel:=⟨fun n=>n == "+drawn"⟩
 have h:=hf x.1 y.1 x.2 y.2
 generalize sortWorldK y3 32 w b 0 m dk os=W
 have htab:XD Tryz.prog (fun _=>0) W:=by
  refine⟨fun n d x hx=>?_,fun n hn=>?_,fun n hn=>?_⟩
  ·unfold zdM at hx
   obtain⟨k,_,hk⟩:=List.mem_filterMap.1 hx
   split at hk
   ·rename_i gl _
    split at hk
    ·rename_i ho
     have e:gl.name = "+drawn":=by
      have:(gl.name == "+drawn")=true:=ho
      simpa using this
     rw[e]at hk
     have e2:zh7 "+drawn" = none:=by decide
     rw[e2]at hk;cases hk
    ·cases hk
   ·cases hk
  ·unfold JD at hn
   have hh:=(List.mem_filter.1 hn).2
   split at hh
   ·rename_i gl _
    rw[Bool.and_eq_true]at hh
    obtain⟨ho,hh⟩:=hh
    have e:gl.name = "+drawn":=by
     have:(gl.name == "+drawn")=true:=ho
     simpa using this
    rw[e]at hh
    exact absurd hh (by decide)
   ·cases hh
  ·unfold cZ at hn
   have hh:=(List.mem_filter.1 hn).2
   split at hh
   ·rename_i gl _
    rw[Bool.and_eq_true]at hh
    obtain⟨ho,hh⟩:=hh
    have e:gl.name = "+drawn":=by
     have:(gl.name == "+drawn")=true:=ho
     simpa using this
    rw[e]at hh
    exact absurd hh (by decide)
   ·cases hh
 have hrep:Rep Tryz.prog (g0 fun _=>0) W []:=⟨fun b hb=>by simp[g0]at hb,List.nodup_nil,by simp,htab⟩
 have hargs:ARs Tryz.prog (g0 fun _=>0) W [.av (.arr 32 5) (qK x.1),.av (.arr 32 5) (qK y.1)] (#[Value.agg (y3 x).toArray,Value.agg (y3 y).toArray]++(#[]:Array Value)).toList:=by
  have one:∀z:D32,AR Tryz.prog (g0 fun _=>0) W (.av (.arr 32 5) (qK z.1)) (Value.agg (y3 z).toArray):=fun z =>
   ⟨rfl,(zea (ty5) z.1 _).2 ⟨z.2,by simp[Value.cells,y3]⟩⟩
  exact⟨one x,one y,trivial⟩
 refine(h (fun _=>0) W _ hrep hargs).mono ?_
 rintro e w' ⟨v,r,imm',H',rfl,⟨rfl,rfl⟩,hv,_,st⟩
 have hv':v=.int .i64 (zms x y):=by
  obtain⟨f,hv⟩:=hv
  simp only[VC]at hv
  rw[qI rfl f]at hv
  simpa[zms]using hv
 refine⟨by rw[hv'],w'.drawn-W.drawn,(w'.heap.toList.drop W.heap.size).toArray,?_⟩
 have hd:=st.drawn rfl
 have hh:W.heap++(w'.heap.toList.drop W.heap.size).toArray=w'.heap:=by
  apply Array.toList_inj.1
  rw[Array.toList_append]
  apply List.ext_getElem?
  intro t
  by_cases ht:t<W.heap.size
  ·rw[List.getElem?_append_left (by simpa using ht)]
   have:=(st.frame t ht (by simp[q7.keys])).1
   simpa using this.symm
  ·rw[List.getElem?_append_right (by simp;omega),List.getElem?_drop]
   congr 1
   simp;omega
 obtain⟨h1,h2,h3,h4,h5⟩:=w'
 simp only at hd hh
 unfold Go.Sort.grow World.drewN
 simp only[World.mk.injEq]
 exact⟨hh.symm,st.tape,by omega,st.os,st.output⟩
theorem zr0 {P:Program} {g:Gh} {w:World} {f:FuncId} {v:Value} (h:VV P g w .func (.fn f []) v):v=.func (.func f) #[] #[]:=by
 obtain⟨f',h⟩:=h
 simp only[VC,VA]at h
 obtain⟨_,vs,h1,h2⟩:=h
 rw[qI rfl f']at h1
 subst h2
 simpa using h1
theorem zq0 {f:Nat} (hfe:zoS f) (ks:List Dig) (hk:∀k∈ks,k.length=32) (b cap:Nat) (j:List AV) (hcap:ks.length+j.length=cap) (hn:ks.length<=1000000) :
  q6 Tryz.prog 166 [.av (.slice 53) (.msl b 53 0 ks.length cap),.av .func (.fn f [])] [(b,.var (.arr cap 53) (.agg (ks.map qK++j)))]
   fun r H'=>r=.tup []/\∃ks':List Dig,ks'.Perm ks/\ks'.Pairwise (fun x y=>ltL y x=false)/\H'=[(b,.var (.arr cap 53) (.agg (ks'.map qK++j)))]:=by
 intro imm w vs hrep hargs
 obtain⟨vs⟩:=vs
 match vs,hargs with
 | [v1,v2],⟨h1,h2,_⟩ =>
  have e2:=zr0 h2
  obtain⟨f1,h1⟩:=h1
  simp only[VC]at h1
  obtain⟨_,h1⟩:=h1
  rw[qI rfl f1,Nat.zero_mul]at h1
  have e1:v1=.slice (some ⟨b,0,none⟩) ks.length cap:=by simpa using h1
  subst e1;subst e2
  obtain⟨h0,cs,hcs,hvc⟩:=hrep.obj b (.var (.arr cap 53) (.agg (ks.map qK++j))) (by simp)
  obtain⟨E,fz,hb,hfz⟩:=WE hcs (by rw[zqZ];simp)
  simp only[VC]at hvc
  obtain⟨hm,hvl⟩:=hvc
  obtain⟨c1,c2,hcc,hv1,hv2⟩:=zfS hvl
  have hDt:=zqZ
  have hut:=ty5
  rw[zep hDt hut]at hv1
  obtain⟨_,rfl⟩:=hv1
  obtain⟨d,hd⟩:∃d:Array D32,d.toList.map (·.1)=ks:=⟨(ks.attach.map fun k=>(⟨k.1,hk k.1 k.2⟩:D32)).toArray,by simp[List.map_map,Function.comp_def]⟩
  have hds:d.size=ks.length:=by rw[<-hd];simp
  have hfm:ks.flatMap byC=d.toList.flatMap y3:=by rw[<-hd,List.flatMap_map];rfl
  have hfl:(flatK y3 32 d).toList=ks.flatMap byC:=by rw[zal,hfm]
  have hfs:(flatK y3 32 d).size=ks.length*32:=by simp[hds]
  have hle:(flatK y3 32 d).size<=cs.size:=by
   rw[<-Array.length_toList,<-Array.length_toList (xs:=cs),hcc,hfl];simp
  have hlt:b<w.heap.size:=(Array.getElem?_eq_some_iff.1 hb).1
  have hH:HoldsK y3 32 w b 0 d:=by
   intro t ht
   rw[Nat.zero_add]
   refine⟨?_,?_⟩
   ·rw[KM hb]
    have e3:cs[t]?=cs.toList[t]?:=by simp
    rw[e3,hcc,<-hfl,List.getElem?_append_left (by simpa using ht),Array.getElem?_toList,Array.getElem?_eq_getElem ht,getElem!_pos _ t ht]
    rfl
   ·simp only[World.frozen?,hb,Bool.and_eq_false_iff,decide_eq_false_iff_not]
    omega
  have hcall:=AnyQ.slices_SortFunc Tryz.sortD 32 Tryz.isAgg53 Tryz.sizeOf53 y3 K9 (fun x v hv=>by
    obtain⟨z,_,rfl⟩:=List.mem_map.1 hv;rfl) zms zs2 f #[] b 0 cap d w
   hfe.1 (zig hfe.2 b d.size w) hH hlt (by omega)
  rw[hds]at hcall
  refine Calls.mono hcall ?_
  rintro e w' ⟨rfl,d',n,os,hperm,hsort,rfl⟩
  have hds':d'.size=ks.length:=hperm.1.trans hds
  have hpl:d'.toList.Perm d.toList:=by
   have:=hperm.2.2
   have e1:d'.extract 0 ks.length=d':=by rw[<-hds'];simp
   have e2:d.extract 0 ks.length=d:=by rw[<-hds];simp
   rwa[e1,e2]at this
  have hfl':(flatK y3 32 d').toList=(d'.toList.map (·.1)).flatMap byC:=by rw[zal,List.flatMap_map];rfl
  have hfs':(flatK y3 32 d').size=(flatK y3 32 d).size:=by simp[hds,hds']
  have hS:qX ⟨Tryz.prog,0,imm,[(b,.var (.arr cap 53) (.agg (ks.map qK++j)))],w,none⟩ { env:=fun _=>.junk,loc:=fun _=>none,ver:=fun _=>0,H:=[(b,.var (.arr cap 53) (.agg (ks.map qK++j)))] } { tmps:=#[],defers:=[] } w (g0 imm) (fun _=>0):={
   defers:=⟨rfl,List.nodup_nil,fun D hD=>by simp at hD⟩
   size:=rfl
   env:=fun t=>trivial
   locs:=fun k d x e=>by simp at e
   inj:=fun k j e=>by simp at e
   rep:=hrep
   toks:=fun k t e=>by simp[g0]at e
   tokd:=fun k k' t t' e=>by simp[g0]at e
   toknew:=fun k v _=>rfl
   step:=W8.refl }
  have hS1:=hS.drew (w.drawn+n) (Nat.le_add_right _ _)
  have hS2:=hS1.setH (b:=b) (d:=.arr cap 53) (x:=.agg (ks.map qK++j)) (y:=.agg ((d'.toList.map (·.1)).map qK++j)) (cs:=putCells id 0 (flatK y3 32 d') cs) (by simp[zU]) hcs (by simp[putCells]) (by
   rw[zbH _ _ (by rw[hfs'];exact hle),hfs',hfl',hcc,<-hfl]
   have e4:((flatK y3 32 d).toList++c2).drop (flatK y3 32 d).size=c2:=by
    rw[List.drop_append,List.drop_of_length_le (by simp)];simp
   rw[e4]
   simp only[VC]
   refine⟨by rw[List.length_append,List.length_map,List.length_map,Array.length_toList,hds'];exact hcap,wU ((zep hDt hut _ _).2 ⟨fun k hk=>?_,rfl⟩) (QH (w':={ w with drawn:=w.drawn+n }) (Gh.le_refl _) hrep.imm (fun b cs E fz _ hb=>⟨cs,E,fz,hb,rfl,fun _ _=>rfl⟩) _ _ _ hv2)⟩
   obtain⟨z,_,rfl⟩:=List.mem_map.1 hk
   exact z.2)
  have hS3:=qX.grow hS2 os.toList
  have ew:Go.Sort.grow (World.setRow { w with drawn:=w.drawn+n } b (putCells id 0 (flatK y3 32 d') cs)) os.toList.toArray=sortWorldK y3 32 w b 0 n d' os:=by
   unfold sortWorldK putRowK putRow
   rw[DY (w:=Go.Sort.ahead w n) (b:=b) (cs:=cs) (E:=E) (fz:=fz) hb]
   simp[Go.Sort.ahead]
  rw[ew]at hS3
  have eh:jZ [(b,HObj.var (.arr cap 53) (.agg (ks.map qK++j)))] b (.var (.arr cap 53) (.agg ((d'.toList.map (·.1)).map qK++j)))=[(b,.var (.arr cap 53) (.agg ((d'.toList.map (·.1)).map qK++j)))]:=by simp[jZ]
  refine⟨.tuple #[],.tup [],imm,[(b,.var (.arr cap 53) (.agg ((d'.toList.map (·.1)).map qK++j)))],rfl,⟨rfl,d'.toList.map (·.1),?_,?_,rfl⟩,⟨[],rfl,trivial⟩,?_,?_⟩
  ·rw[<-hd];exact hpl.map _
  ·rw[List.pairwise_map]
   rw[List.pairwise_iff_getElem]
   intro i k hi hk hik
   have:=hsort i k (Nat.zero_le _) hik (by simpa[hds']using hk)
   simp only[Array.length_toList]at hi hk
   rw[getElem!_pos d' k hk,getElem!_pos d' i hi]at this
   exact this
  ·have:=hS3.rep
   simp only[eh]at this
   exact this
  ·have:=hS3.step
   simp only[eh]at this
   exact this
end
end Go.Proofs.YtognnffjdckalaaGreatDoor
end
section
set_option maxRecDepth 100000
namespace Go.Proofs.YtognnffjdckalaaGreatDoor
open Go Go.Ab
open Classical
section
variable [Sel]
theorem zhO {f:Nat}:q6 Tryz.prog 166 [.av DgS .nsl,.av .func (.fn f [])] [] fun r H'=>r=.tup []/\H'=[]:=by
 intro imm w vs hrep hargs
 obtain⟨vs⟩:=vs
 match vs,hargs with
 | [v1,v2],⟨h1,h2,_⟩ =>
  obtain⟨f1,h1⟩:=h1
  simp only[VC]at h1
  obtain⟨_,_,h1⟩:=h1
  rw[qI rfl f1]at h1
  have e1:v1=.slice none 0 0:=by simpa using h1
  subst e1
  have hcall:=AnyF.slices_SortFunc_none Tryz.sortD none 0 v2 w
  refine Calls.mono hcall ?_
  rintro e w' ⟨rfl,rfl⟩
  exact⟨.tuple #[],.tup [],imm,[],rfl,⟨rfl,rfl⟩,⟨[],rfl,trivial⟩,hrep,W8.refl⟩
def KO (ks ks':List Dig):Prop:=ks'.Perm ks/\ks'.Pairwise (fun x y=>ltL y x=false)
def sR (ks:List Dig) (rest:q7) (r:TV) (H':q7):Prop :=
 ∃ks',KO ks ks'/\((ks'=[]/\r=.av DgS .nsl/\H'=rest)\/∃b cap j,JK j/\ks'.length+j.length=cap/\r=.av DgS (.msl b 53 0 ks'.length cap)/\H'=(b,xN cap ks' j)::rest)
theorem VK {f:Nat} (hfe:zoS f) {g c:Nat} {T:TyD} {HS:q7} {ks:List Dig} (hs:znp g c T HS ks) (hlen:ks.length<=1000000) (h32:∀k∈ks,k.length=32) :
  q6 Tryz.prog 115 [.av .func (.fn g [.ptr c T []]),.av .func (.fn f [])] HS (sR ks HS):=by
 have hse:=hs.2.1
 refine zov Tryz.func115 cf0 fun imm0 w0=>?_
 simp (disch:=omega) [zz]
 refine zF (R:=kR ks HS) rfl (by simp[qH]) (by simp) ?_ ?_
 ·have:=zhw hs hlen
  simpa[TV.er,AV.er,AV.ers,hse]using this
 rintro r' H0 ⟨done,hp,⟨rfl,rfl,rfl⟩|⟨b,cap,j,hj,hcap,rfl,rfl⟩⟩
 ·simp (disch:=omega) [zz]
  refine qM (R:=fun r H'=>r=.tup []/\H'=[]) [] H0 (List.Perm.refl _) rfl (by simp[qH]) (by simp) ?_ ?_
  ·have:=zhO (f:=f)
   simpa[TV.er,AV.er,AV.ers,q7.er_nil]using this
  rintro r' H' ⟨rfl,rfl⟩ _
  refine⟨_,HSub.refl _,?_⟩
  simp (disch:=omega) [zz,hse,Tryz.f115]
  exact⟨[],⟨hp,List.Pairwise.nil⟩,.inl ⟨rfl,rfl,rfl⟩⟩
 ·have hkr:=fun ks=>vW (cap:=cap) (ks:=ks) hj
  have hd32:∀k∈done,k.length=32:=fun k hk=>h32 k (hp.mem_iff.1 hk)
  have hdl:done.length=ks.length:=hp.length_eq
  simp (disch:=omega) [zz]
  refine qM (R:=fun r H'=>r=.tup []/\∃ks':List Dig,ks'.Perm done/\ks'.Pairwise (fun x y=>ltL y x=false)/\H'=[(b,xN cap ks' j)]) [(b,xN cap done j)] HS (List.Perm.refl _) rfl (by simp[qH]) (by simp) ?_ ?_
  ·have:=zq0 hfe done hd32 b cap j hcap (by omega)
   have e:q7.er [(b,xN cap done j)]=[(b,xN cap done j)]:=by rw[q7.er_cons,hkr];rfl
   rw[e]
   simpa[TV.er,AV.er,AV.ers,xN]using this
  rintro r' H' ⟨rfl,ks',hp',hs',rfl⟩ _
  refine⟨_,HSub.refl _,?_⟩
  have hkl:ks'.length=done.length:=hp'.length_eq
  simp (disch:=omega) [zz,hse,hkr,Tryz.f115]
  exact⟨ks',⟨hp'.trans hp,hs'⟩,.inr ⟨b,cap,j,hj,by omega,by rw[hkl],rfl⟩⟩
theorem zrn (cs:List Cel):(mpO (cs.map y6)).er=mpO (cs.map y6):=by
 have hek:=VX cs
 unfold EK at hek
 simp only[mpO,HObj.er_map,hek]
theorem zlE (c M:Nat) (hcM:c≠M) (cs:List Cel):znp 170 c MpT [(M,mpO (cs.map y6)),(c,mbO M)] (cs.map (·.key)) :=
 ⟨by simp,by simp only[q7.er_cons,q7.er_nil,zrn cs];rfl,fun G y hGe hY H hG=>zlp y c M hcM cs hGe (fun done k H _ h2 h3=>hY done k H (by simpa using h2) h3) H hG⟩
theorem zm3:zoS 122:=⟨enters_of Tryz.func122 (by kernel_rfl) rfl,fun a b h1 h2=>zkf a b h1 h2⟩
theorem zli (B M mo:Nat) (hBM:B≠M) (cs:List Cel) (hlen:cs.length<=1000000) (h32:∀c∈cs,c.key.length=32) :
  q6 Tryz.prog 64 [.av .ptr (.ptr B DbT [])] [(B,dbO M mo),(M,mpO (cs.map y6))] fun r H'=>∃rest H2,sR (cs.map (·.key)) rest r H2/\Ab.HSub H2 H'/\rest=[(B,dbO M mo),(M,mpO (cs.map y6))]:=by
 have hMB:¬M=B:=fun e=>hBM e.symm
 have hek:=VX cs
 unfold EK at hek
 have hme:(mpO (cs.map y6)).er=mpO (cs.map y6):=by simp only[mpO,HObj.er_map,hek]
 refine zov Tryz.func64 cf0 fun imm0 w0=>?_
 simp (disch:=omega) [zz,dbO]
 refine qM (R:=fun r H'=>∃c,r=.av .func (.fn 170 [.ptr c MpT []])/\H'=[(c,mbO M)]) [] [(B,dbO M mo),(M,mpO (cs.map y6))] (List.Perm.refl _) rfl (by simp[qH]) (by simp) ?_ ?_
 ·have:=znx M
  simpa[TV.er,AV.er,AV.ers,q7.er_nil]using this
 rintro r' H' ⟨c,rfl,rfl⟩ hnd
 simp[q7.keys]at hnd
 refine⟨[(c,mbO M),(B,dbO M mo),(M,mpO (cs.map y6))],HSub.refl _,?_⟩
 simp (disch:=omega) [zz]
 refine qM (R:=sR (cs.map (·.key)) [(M,mpO (cs.map y6)),(c,mbO M)]) [(M,mpO (cs.map y6)),(c,mbO M)] [(B,dbO M mo)] ((List.perm_append_comm (l₁:=[_,_]) (l₂:=[_])).trans (List.Perm.cons _ (List.Perm.refl _))) rfl (by simp[qH]) (by simp) ?_ ?_
 ·have:=VK zm3 (zlE c M hnd.1.2 cs) (by simpa using hlen) (fun k hk=>by obtain⟨c,hc,rfl⟩:=List.mem_map.1 hk;exact h32 c hc)
  simpa[TV.er,AV.er,AV.ers,q7.er_cons,q7.er_nil,hme,mbO]using this
 rintro r' H' ⟨ks',hko,⟨rfl,rfl,rfl⟩|⟨b,cap,j,hj,hcap,rfl,rfl⟩⟩ _
 ·refine⟨[(B,dbO M mo),(M,mpO (cs.map y6))],⟨_,List.perm_append_comm (l₁:=[_,_]),?_⟩,?_⟩
  ·exact((List.nil_sublist _).cons_cons _).cons_cons _
  simp (disch:=omega) [zz,hme,dbO,Tryz.f64]
  exact⟨_,_,⟨[],hko,.inl ⟨rfl,rfl,rfl⟩⟩,HSub.refl _,rfl⟩
 ·refine⟨[(b,xN cap ks' j),(B,dbO M mo),(M,mpO (cs.map y6))],⟨_,List.Perm.cons _ (List.perm_append_comm (l₁:=[_,_])),?_⟩,?_⟩
  ·exact(((List.nil_sublist _).cons_cons _).cons_cons _).cons_cons _
  have hkr:=vW (cap:=cap) (ks:=ks') hj
  simp (disch:=omega) [zz,hme,dbO,hkr,Tryz.f64]
  exact⟨_,_,⟨ks',hko,.inr ⟨b,cap,j,hj,hcap,rfl,rfl⟩⟩,HSub.refl _,rfl⟩
theorem zkF (B M mo:Nat) (cs:List Cel) (hlen:cs.length<=1000000) (h32:∀c∈cs,c.key.length=32) :
  q6 Tryz.prog 64 [.av .ptr (.ptr B DbT [])] (DbH B M mo cs) fun r H'=>∃ks',KO (cs.map (·.key)) ks'/\r=.av DgS (kD ks')/\H'=DbH B M mo cs:=by
 refine q6.nodup fun hnd=>?_
 obtain⟨hBM,hbs⟩:=zio hnd
 have h1:q6 Tryz.prog 64 [.av .ptr (.ptr B DbT [])] [(B,dbO M mo),(M,mpO (cs.map y6))] fun r H'=>∃ks',KO (cs.map (·.key)) ks'/\r=.av DgS (kD ks')/\H'=[(B,dbO M mo),(M,mpO (cs.map y6))]:=by
  have g1:=q6.sub (R':=sR (List.map Cel.key cs) [(B,dbO M mo),(M,mpO (cs.map y6))]) (zli B M mo hBM cs hlen h32) (by
   rintro r H' ⟨rest,H2,h1,h2,rfl⟩ _
   exact⟨H2,h2,h1⟩)
  have g2:=q6.nilR (R':=fun r H'=>∃ks':List Dig,KO (List.map Cel.key cs) ks'/\((ks'=[]/\r=.av DgS (.sl .no [])/\H'=[(B,dbO M mo),(M,mpO (cs.map y6))])\/∃b cap j,JK j/\ks'.length+j.length=cap/\r=.av DgS (.msl b 53 0 ks'.length cap)/\H'=(b,xN cap ks' j)::[(B,dbO M mo),(M,mpO (cs.map y6))])) g1 (by
   rintro r H' ⟨ks',hko,⟨rfl,rfl,rfl⟩|h⟩
   ·exact .inr ⟨_,rfl,[],hko,.inl ⟨rfl,rfl,rfl⟩⟩
   ·exact .inl ⟨ks',hko,.inr h⟩)
  refine g2.freeze laid ?_
  rintro r H' ⟨ks',hko,⟨rfl,rfl,rfl⟩|⟨b,cap,j,hj,hcap,rfl,rfl⟩⟩ _
  ·exact .inr ⟨[],hko,rfl,rfl⟩
  ·refine .inl ⟨b,cap,53,ks'.map qK++j,_,List.Perm.refl _,ks',hko,?_,rfl⟩
   have htk:(ks'.map qK++j).take ks'.length=ks'.map qK:=by rw[List.take_append_of_le_length (by simp)];exact List.take_of_length_le (by simp)
   simp[V2,fzA,hcap,htk,kD]
   omega
 refine q6.use (Hs:=[(B,dbO M mo),(M,mpO (cs.map y6))]) (rest:=cs.map g6) (List.Perm.refl _) h1 ?_
 rintro r H1 ⟨ks',hko,rfl,rfl⟩ _
 exact⟨_,HSub.refl _,ks',hko,rfl,rfl⟩
end
section
variable [Sel] [SelPow]
theorem zmZ {P:Program} {g g':Gh} {w:World} {b m:Nat} {e:TypeId} {ys:List AV} (hf:∀d x v,VV P g w d x v->VV P g' w d (fzA b m e ys x) v):∀ {xs:List TV} {vs:List Value},ARs P g w xs vs->ARs P g' w (xs.map (V2 b m e ys)) vs
 | [],[],_=>trivial
 | x::xs,v::vs,h=>by
  refine⟨?_,zmZ hf h.2⟩
  have h1:=h.1
  cases x with
  | av d x=>exact hf d x v h1
  | cst c=>exact h1
  | tup l=>obtain⟨us,h3,h4⟩:=h1;exact⟨us,h3,zeg hf h4⟩
  | _=>exact h1.elim
 | [],_::_,h=>h.elim
 | _::_,[],h=>h.elim
theorem q6.fzArgs {P:Program} (hl:laidOutB P=true) {f:FuncId} {args:List TV} {H:q7} {R:TV->q7->Prop} {b m:Nat} {e:TypeId} {xs:List AV}
  (h:q6 P f (args.map (V2 b m e xs)) H R):q6 P f args ((b,.var (.arr m e) (.agg xs))::H) R:=by
 intro imm w vs hrep hargs
 obtain⟨h0,cs,⟨E,fz,hc,_,_⟩,hvc⟩:=hrep.obj b (.var (.arr m e) (.agg xs)) (by simp)
 simp only[VC]at hvc
 obtain⟨hm,hvl⟩:=hvc
 have hsz:=Q2 hl _ _ _ hvl
 rw[Array.length_toList,hm]at hsz
 have h00:imm b=0:=h0
 have hle:(g0 imm).le (g0 (upd imm b (m*P.cellsOf e))):=by
  refine⟨fun x=>?_,fun _ _ _ e=>by cases e⟩
  simp only[g0,upd];split
  ·rename_i ee;rw[ee,h00];exact Nat.zero_le _
  ·exact Nat.le_refl _
 have hk:zS (g0 imm) w w:=fun b cs E fz _ hb=>⟨cs,E,fz,hb,rfl,fun _ _=>rfl⟩
 have hi:QA (g0 imm) w:=hrep.imm
 have hcell:z6 w b 0 (m*P.cellsOf e)=cs.toList:=by
  unfold z6
  rw[hc]
  simp only[List.drop_zero]
  rw[List.take_of_length_le (by simp[hsz])]
 have hv2:VL P (g0 (upd imm b (m*P.cellsOf e))) w e xs (z6 w b 0 (m*P.cellsOf e)):=by
  rw[hcell];exact QH hle hi hk _ _ _ hvl
 have hb2:m*P.cellsOf e<=(g0 (upd imm b (m*P.cellsOf e))).imm b:=by simp[g0,upd]
 have hfz:∀d x v,VV P (g0 imm) w d x v->VV P (g0 (upd imm b (m*P.cellsOf e))) w d (fzA b m e xs x) v:=fun d x v hx =>
  ⟨hx.1,zbl hl hle hi hb2 hv2 hm x d _ hx.2⟩
 have hnd:=hrep.nodup
 simp only[q7.keys,List.map_cons,List.nodup_cons]at hnd
 have hrep2:Rep P (g0 (upd imm b (m*P.cellsOf e))) w H:=by
  refine⟨fun x hx=>?_,hnd.2,fun x o ho=>?_,hrep.tab.keep (g:=g0 imm) (g':=g0 (upd imm b (m*P.cellsOf e))) hle hi hk⟩
  ·simp only[g0,upd]at hx |-
   split
   ·rename_i ee;rw[ee];exact⟨cs,E,fz,hc,by rw[hsz];exact Nat.le_refl _⟩
   ·rename_i ee;rw[if_neg ee]at hx;exact hrep.imm x hx
  ·have hne:x≠b:=fun ee=>hnd.1 (by rw[<-ee];exact List.mem_map.2 ⟨(x,o),ho,rfl⟩)
   have himm:upd imm b (m*P.cellsOf e) x=imm x:=by simp[upd,hne]
   have hob:=hrep.obj x o (List.mem_cons_of_mem _ ho)
   cases o with
   | var d y=>obtain⟨q1,cs',q2,q3⟩:=hob;exact⟨himm.trans q1,cs',q2,zP hle hi hk _ _ _ q3⟩
   | map k e es=>obtain⟨q1,en,ck,q2,q3⟩:=hob;exact⟨himm.trans q1,en,ck,q2,QY hle hi hk q3.1,q3.2⟩
   | raw o i0 w0=>obtain⟨q1,q2,q3⟩:=hob;exact⟨himm.trans q1,q2,kW q3 hle hk⟩
 refine(h _ w vs hrep2 (zmZ hfz hargs)).mono ?_
 rintro e' w' ⟨v,r,imm',H',a,hR,hv,hrep',st⟩
 refine⟨v,r,imm',H',a,hR,hv,hrep',?_⟩
 exact {
  os:=st.os,tape:=st.tape,output:=st.output,size:=st.size,drawn:=st.drawn
  frame:=fun x hx hn=>by
   simp only[q7.keys,List.map_cons,List.mem_cons,not_or]at hn
   obtain⟨q1,q2⟩:=st.frame x hx hn.2
   exact⟨q1,q2.trans (by simp[upd,hn.1])⟩
  imm:=fun x=>Nat.le_trans (hle.1 x) (st.imm x)
  kept:=fun x cs' E' fz' h1 h2=>by
   have hne:x≠b:=fun ee=>by rw[ee]at h1;omega
   have:=st.kept x cs' E' fz' (by simp[upd,hne];exact h1) h2
   simpa[upd,hne]using this
  dom:=fun x hx=>by
   rcases st.dom x hx with h1|h1
   ·left;simp only[q7.keys,List.map_cons,List.mem_cons];exact .inr h1
   ·exact .inr h1 }
def y7 (r:yH):List (List UInt8):=[r.path,if r.is then r.sum else []]
def yL (m:Made):List (List UInt8):=[m.path,m.sum]
def jK (t:qD):List (List UInt8):=[t.key,Lib.itoa t.reads.length]++t.reads.flatMap y7++t.outs.flatMap yL
def TrD (t:qD):Prop:=t.key.length=32/\(∀r∈t.reads,r.sum.length=32)/\∀m∈t.outs,m.sum.length=32
theorem wE (a b:List (List UInt8)):qG (a++b)=qG a++qG b:=by simp[qG]
theorem zao (l:List (List UInt8)) (n:Nat):(qG l).take n=qG (l.take n):=by simp[qG,List.map_take]
theorem zbj (l:List (List UInt8)) (n:Nat):(qG l).drop n=qG (l.drop n):=by simp[qG,List.map_drop]
theorem PD (n:Nat):List.replicate n (AV.s [])=qG (List.replicate n []):=by simp[qG]
@[simp] theorem zhs (l:List (List UInt8)):AV.erks (qG l)=qG l:=by simp[qG,AV.erks_eq,AV.erk,Function.comp_def]
@[simp] theorem zry (l:List (List UInt8)):AV.ers (qG l)=qG l:=by simp[qG,AV.ers_eq,AV.er,Function.comp_def]
theorem QN (x:List UInt8) (l:List (List UInt8)):AV.s x::qG l=qG (x::l):=rfl
theorem zki (a:List (List UInt8)) (p q x:List UInt8) (r:List (List UInt8)):(qG (a++p::q::r)).set (a.length+1) (.s x)=qG (a++p::x::r):=by
 simp only[qG]
 rw[<-List.map_set]
 congr 1
 rw[List.set_append_right _ _ (by omega)]
 simp
noncomputable def wO (t:qD):TV:=if qY t=0 then .tup [(.str,.s (k9 (jK t))),(.int .i64,.i .i64 0)] else .tup [(.str,.s []),(.int .i64,.i .i64 (qY t))]
theorem Q3 {t:qD} (h:qY t=0):t.reads.length<=500/\t.outs.length<=1000:=by
 unfold qY at h
 split at h
 ·cases h
 ·omega
abbrev zdE:Cfg:=⟨fun _=>false,fun n=>n==22⟩
theorem zo0 (t:qD) (ht:TrP t) (hd:TrD t) (hb:qY t=0->(k9 (jK t)).length<=10000000000):PC Tryz.prog 40 [.av (q8 Tryz.prog 56) (q5 t)] (wO t):=by
 unfold PC
 refine q6.sub (R:=fun r H'=>r=wO t) ?_ (fun r H' hr _=>⟨[],HSub.of_sub (List.nil_sublist _),hr,rfl⟩)
 refine zov Tryz.func40 zdE fun imm0 w0=>?_
 simp (disch:=omega) [zz,q5]
 refine YE (UV t ht) rfl rfl (by simp) (by simp[q9,TV.er,AV.er,AV.ers,q5]) ?_
 by_cases hc:qY t=0
 rotate_left
 ·simp (disch:=omega) [zz,hc,Tryz.f40,wO]
 obtain⟨hrl,hol⟩:=Q3 hc
 obtain⟨hd1,hd2,hd3⟩:=hd
 simp (disch:=omega) [zz,hc]
 (repeat with_reducible refine om ?_)
 refine XF (pF t.key hd1) rfl rfl (by simp) (by simp[q9,TV.er]) ?_
 simp (disch:=omega) [zz,qE]
 (repeat with_reducible refine om ?_)
 refine XF (zlt t.reads.length (by omega) (by omega)) rfl rfl (by simp) (by simp[q9,TV.er,AV.er]) ?_
 simp (disch:=omega) [zz]
 refine⟨(show VZ _ _=true by kernel_rfl),?_⟩
 intro b0
 refine AT.loopV (α:=Nat × Nat × Nat × List (List UInt8) × List (List UInt8)) (fun x ver=>St.of [(1,.loc 1 []),(5,.av (.slice 9) (.msl x.2.1 9 0 x.2.2.2.1.length x.2.2.1)),(24,.av (.slice 82) (qE t.reads)),(25,.av (.int .i64) (.i .i64 t.reads.length)),(26,.av (.int .i64) (.i .i64 x.1))] [(1,(q8 Tryz.prog 56,q5 t))] ver [(x.2.1,.var (.arr x.2.2.1 9) (.agg (qG (x.2.2.2.1++x.2.2.2.2))))])
  (fun x=>x.1<=t.reads.length/\x.2.2.2.1=[t.key,Lib.itoa t.reads.length]++(t.reads.take x.1).flatMap y7/\x.2.2.2.1.length+x.2.2.2.2.length=x.2.2.1/\x.2.2.2.1.length=2+2*x.1) (fun x=>t.reads.length-x.1) (0,b0,2,[t.key,Lib.itoa t.reads.length],[]) ?_ ?_ ?_
 ·apply Le.of<;>simp[le9,q5,qE,qG]<;>try omega
 ·simp
 ·rintro⟨k,b,cap,ps,rs⟩ ver ⟨hk,hps,hcap,hpl⟩ KL hN hE
  simp only at hk hps hcap hpl hN
  have e1:(qG (ps++rs)).take ps.length=qG ps:=by rw[zao,List.take_left]
  have e2:(qG (ps++rs)).drop (ps.length+2)=qG (rs.drop 2):=by
   rw[zbj,List.drop_append,List.drop_eq_nil_of_le (by omega)];simp
  have e5:∀(p x:List UInt8) r',(qG ps++qG (p::[]::r')).set (ps.length+1) (.s x)=qG (ps++p::x::r'):=by
   intro p x r'
   rw[<-wE,zki]
  refine zrd zdE ?_
  by_cases hlt:k<t.reads.length
  ·have hlt':(k:Int)<t.reads.length:=by omega
   have hg:=wC qV t.reads k hlt
   have hds:=hd2 t.reads[k] (List.getElem_mem _)
   have htk:(t.reads.take (k+1)).flatMap y7=(t.reads.take k).flatMap y7++y7 t.reads[k]:=by
    rw[List.take_succ_eq_append_getElem hlt,List.flatMap_append];simp
   obtain⟨r,hr⟩:∃r,r=t.reads[k]:=⟨_,rfl⟩
   rw[<-hr]at hg hds htk
   have hnew:∀q,q=(if r.is then r.sum else [])->ps++[r.path,q]=[t.key,Lib.itoa t.reads.length]++(t.reads.take (k+1)).flatMap y7:=by
    intro q hq;rw[htk,hps,hq];simp[y7]
   simp (disch:=omega) [zz,hlt',hg,qE,qV,e1,e2]
   have hmin:min ps.length (ps.length+rs.length)=ps.length:=by omega
   cases his:r.is
   ·refine⟨by omega,⟨by omega,by omega⟩,fun hcp=>?_,fun hcp b' cap' hb' hcp'=>?_⟩
    ·simp (disch:=omega) [zz,his,QN]
     refine hN _ (k+1,b,cap,ps++[r.path,[]],rs.drop 2) ?_ ⟨by omega,hnew [] (by simp[his]),by simp;omega,by simp;omega⟩ (by simp;omega)
     apply Le.of<;>simp[le9,q5,qE,wE,QN,e1,e2]<;>try omega
    ·simp (disch:=omega) [zz,his,QN,hmin]
     refine hN _ (k+1,b',cap',ps++[r.path,[]],List.replicate (cap'-(ps.length+2)) []) ?_ ⟨by omega,hnew [] (by simp[his]),by simp at hcp' |-;omega,by simp;omega⟩ (by simp;omega)
     apply Le.of<;>simp[le9,q5,qE,wE,QN,PD,e1,e2,hmin]<;>try omega
   ·refine⟨by omega,⟨by omega,by omega⟩,fun hcp=>?_,fun hcp b' cap' hb' hcp'=>?_⟩
    ·simp (disch:=omega) [zz,his,QN]
     refine qM (R:=fun r' H'=>r'=.av .str (.s r.sum)/\H'=[]) [] [(b,.var (.arr cap 9) (.agg (qG ps++qG (r.path::[]::rs.drop 2))))] (by simp) rfl (by simp[qH]) (by simp) ?_ ?_
     ·exact q6.args (pF r.sum hds) (by simp[q9,TV.er])
     rintro r' H' ⟨rfl,rfl⟩ _
     refine⟨_,HSub.refl _,?_⟩
     simp (disch:=omega) [zz]
     (repeat with_reducible refine om ?_)
     refine hN _ (k+1,b,cap,ps++[r.path,r.sum],rs.drop 2) ?_ ⟨by omega,hnew r.sum (by simp[his]),by simp;omega,by simp;omega⟩ (by simp;omega)
     apply Le.of<;>simp[le9,q5,qE,e5]<;>try omega
    ·simp (disch:=omega) [zz,his,QN,hmin,PD]
     refine qM (R:=fun r' H'=>r'=.av .str (.s r.sum)/\H'=[]) [] [(b',.var (.arr cap' 9) (.agg (qG ps++qG (r.path::[]::List.replicate (cap'-(ps.length+2)) [])))),(b,.var (.arr cap 9) (.agg (qG (ps++rs))))] (by simp) rfl (by simp[qH]) (by simp) ?_ ?_
     ·exact q6.args (pF r.sum hds) (by simp[q9,TV.er])
     rintro r' H' ⟨rfl,rfl⟩ _
     refine⟨_,HSub.refl _,?_⟩
     simp (disch:=omega) [zz,hb']
     (repeat with_reducible refine om ?_)
     refine hN _ (k+1,b',cap',ps++[r.path,r.sum],List.replicate (cap'-(ps.length+2)) []) ?_ ⟨by omega,hnew r.sum (by simp[his]),by simp at hcp' |-;omega,by simp;omega⟩ (by simp;omega)
     apply Le.of<;>simp[le9,q5,qE,e5]<;>try omega
  ·have hlt':¬(k:Int)<t.reads.length:=by omega
   have hkn:k=t.reads.length:=by omega
   simp (disch:=omega) [zz,hlt',qE,q5]
   refine hE _ _ (by simp) ?_
   rw[hkn,List.take_length]at hps
   rw[hkn]at hpl
   simp (disch:=omega) [zz,q5,qF]
   refine AT.loopV (α:=Nat × Nat × Nat × List (List UInt8) × List (List UInt8)) (fun x ver=>St.of [(1,.loc 1 []),(5,.av (.slice 9) (.msl x.2.1 9 0 x.2.2.2.1.length x.2.2.1)),(47,.av (.slice 77) (qF t.outs)),(48,.av (.int .i64) (.i .i64 t.outs.length)),(49,.av (.int .i64) (.i .i64 x.1))] [(1,(q8 Tryz.prog 56,q5 t))] ver [(x.2.1,.var (.arr x.2.2.1 9) (.agg (qG (x.2.2.2.1++x.2.2.2.2))))])
    (fun x=>x.1<=t.outs.length/\x.2.2.2.1=[t.key,Lib.itoa t.reads.length]++t.reads.flatMap y7++(t.outs.take x.1).flatMap yL/\x.2.2.2.1.length+x.2.2.2.2.length=x.2.2.1/\x.2.2.2.1.length=2+2*t.reads.length+2*x.1) (fun x=>t.outs.length-x.1) (0,b,cap,ps,rs) ?_ ?_ ?_
   ·apply Le.of<;>simp[le9,q5,qE,qF]<;>try omega
   ·refine⟨by simp,by simp[hps],hcap,by simp[hpl]⟩
   clear hN hE
   clear e1 e2 e5
   rintro⟨k2,b2,cap2,ps2,rs2⟩ ver2 ⟨hk2,hps2,hcap2,hpl2⟩ KL2 hN2 hE2
   simp only at hk2 hps2 hcap2 hpl2 hN2
   have e1:(qG (ps2++rs2)).take ps2.length=qG ps2:=by rw[zao,List.take_left]
   have e2:(qG (ps2++rs2)).drop (ps2.length+2)=qG (rs2.drop 2):=by
    rw[zbj,List.drop_append,List.drop_eq_nil_of_le (by omega)];simp
   refine zrd zdE ?_
   by_cases hlt2:k2<t.outs.length
   ·have hlt2':(k2:Int)<t.outs.length:=by omega
    have hg:=wC qS t.outs k2 hlt2
    have hds:=hd3 t.outs[k2] (List.getElem_mem _)
    have htk:(t.outs.take (k2+1)).flatMap yL=(t.outs.take k2).flatMap yL++yL t.outs[k2]:=by
     rw[List.take_succ_eq_append_getElem hlt2,List.flatMap_append];simp
    obtain⟨m,hm⟩:∃m,m=t.outs[k2]:=⟨_,rfl⟩
    rw[<-hm]at hg hds htk
    have hnew:ps2++[m.path,m.sum]=[t.key,Lib.itoa t.reads.length]++t.reads.flatMap y7++(t.outs.take (k2+1)).flatMap yL:=by
     rw[htk,hps2];simp[yL]
    have hmin:min ps2.length (ps2.length+rs2.length)=ps2.length:=by omega
    simp (disch:=omega) [zz,hlt2',hg,qF,qS]
    (repeat with_reducible refine om ?_)
    refine XF (pF m.sum hds) rfl rfl (by simp) (by simp[q9,TV.er]) ?_
    simp (disch:=omega) [zz,e1,e2]
    refine⟨by omega,⟨by omega,by omega⟩,fun hcp=>?_,fun hcp b' cap' hb' hcp'=>?_⟩
    ·refine hN2 _ (k2+1,b2,cap2,ps2++[m.path,m.sum],rs2.drop 2) ?_ ⟨by omega,hnew,by simp;omega,by simp;omega⟩ (by simp;omega)
     apply Le.of<;>simp[le9,q5,qF,wE,QN]<;>try omega
    ·refine hN2 _ (k2+1,b',cap',ps2++[m.path,m.sum],List.replicate (cap'-(ps2.length+2)) []) ?_ ⟨by omega,hnew,by simp at hcp' |-;omega,by simp;omega⟩ (by simp;omega)
     apply Le.of<;>simp[le9,q5,qF,wE,QN,PD,hmin]<;>try omega
   ·have hlt2':¬(k2:Int)<t.outs.length:=by omega
    have hkn2:k2=t.outs.length:=by omega
    have hbl:ps2=jK t:=by rw[hps2,hkn2,List.take_length];rfl
    simp (disch:=omega) [zz,hlt2']
    refine hE2 _ _ (by simp) ?_
    simp (disch:=omega) [zz]
    refine zF (R:=fun r H'=>r=.av .str (.s (k9 (jK t)))) rfl (by simp[qH]) (by simp) ?_ ?_
    ·simp only[q7.er_cons,q7.er_nil,HObj.er,AV.erk,zhs]
     refine q6.fzArgs laid ?_
     have:=zgZ (jK t) (by rw[<-hbl];omega) (hb hc)
     have:=q6.sub this (R':=fun r H'=>r=.av .str (.s (k9 (jK t)))) (fun r H' h _=>⟨H',HSub.refl _,h.1⟩)
     have harg:fzA b2 cap2 9 (qG (ps2++rs2)) (.msl b2 9 0 ps2.length cap2)=.sl .no (qG (jK t)):=by
      simp only[fzA]
      rw[if_pos ⟨trivial,trivial,by omega,by omega⟩,List.drop_zero,e1,hbl]
     have hgo:∀l:List TV,l=[.av (.slice 9) (.sl .no (qG (jK t)))]->q6 Tryz.prog 44 l [] (fun r H'=>r=.av .str (.s (k9 (jK t)))):=fun l e=>by rw[e];exact this
     refine hgo _ ?_
     show [TV.av _ (fzA _ _ _ _ _)]=_
     simp only[AV.er]
     rw[harg]
    rintro r H' rfl
    simp (disch:=omega) [zz,Tryz.f40,wO,hc]
def okS (r:yH):Prop:=r.sum.length=32/\(r.is=false->r.sum=kZ)
theorem d6 (l:List yH):(l.flatMap y7).length=2*l.length:=by
 induction l with
 | nil=>rfl
 | cons r l ih=>rw[List.flatMap_cons,List.length_append,ih];simp[y7];omega
theorem ZW:∀ {l:List yH} {met:List (List UInt8)},yO met l=0->∀r∈l,Z3 r.path=true/\(r.is=false->r.sum=kZ)
 | [],_,_,r,hr=>by cases hr
 | x::l,met,h,r,hr=>by
  unfold yO at h
  split at h
  ·cases h
  ·split at h
   ·cases h
   ·split at h
    ·cases h
    ·rename_i h1 h2 h3
     rcases List.mem_cons.1 hr with rfl|hr
     ·exact⟨by simpa using h1,fun hi=>Classical.byContradiction fun hn=>h3 ⟨hi,hn⟩⟩
     ·exact ZW h r hr
theorem KG:∀ {l:List Made} {o:Option (List UInt8)},ZD o l=0->∀m∈l,wF m.path V3=true
 | [],_,_,m,hm=>by cases hm
 | x::l,none,h,m,hm=>by
  unfold ZD at h
  split at h
  ·cases h
  ·rename_i h1
   rcases List.mem_cons.1 hm with rfl|hm
   ·simpa using h1
   ·exact KG h m hm
 | x::l,some q,h,m,hm=>by
  unfold ZD at h
  split at h
  ·cases h
  ·split at h
   ·cases h
   ·split at h
    ·cases h
    ·rename_i h1 _ _
     rcases List.mem_cons.1 hm with rfl|hm
     ·simpa using h1
     ·exact KG h m hm
theorem gZ (c:UInt8):∀l,l.length+1=((qP c l).map fun x=>x.length+1).sum
 | []=>rfl
 | b::l=>by
  have ih:=gZ c l
  unfold qP
  split
  ·simp only[List.map_cons,List.sum_cons,List.length_cons,List.length_nil];omega
  ·split
   ·rename_i h;rw[h]at ih;simp at ih
   ·rename_i x r h
    rw[h]at ih
    simp only[List.map_cons,List.sum_cons,List.length_cons]at ih |-
    omega
theorem zfB:∀l:List (List UInt8),(∀x∈l,x.length<=64)->(l.map fun x=>x.length+1).sum<=65*l.length
 | [],_=>by simp
 | x::l,h=>by
  have:=zfB l fun y hy=>h y (by simp[hy])
  have:=h x (by simp)
  simp only[List.map_cons,List.sum_cons,List.length_cons];omega
theorem ZV {l:List UInt8} (h:Z3 l=true):l.length<=1040:=by
 simp only[Z3,Bool.and_eq_true,decide_eq_true_eq,List.all_eq_true]at h
 have h1:=gZ 47 l
 have h2:=zfB (qP 47 l) fun x hx=>by
  have:=h.2 x hx
  simp only[QT,Bool.and_eq_true,decide_eq_true_eq]at this
  exact this.1.2.1
 omega
theorem wN (u:Nat):(Lib.decDigits u).length<=u+1:=by
 induction u using Nat.strongRecOn with
 | ind u ih =>
  rw[Lib.decDigits]
  split
  ·simp
  ·have:=ih (u / 10) (by omega)
   simp;omega
theorem vP:∀ {l:List (List UInt8)} {n:Nat},(∀x∈l,x.length<=n)->(k9 l).length<=(2*n+2)*l.length
 | [],_,_=>by simp[k9]
 | s::l,n,h=>by
  have ih:=vP (l:=l) fun y hy=>h y (by simp[hy])
  have h1:=h s (by simp)
  have h2:=wN s.length
  rw[ZR,yR]
  simp only[List.length_append,List.length_cons,Nat.mul_add]
  omega
theorem PE (l:List Made):(l.flatMap yL).length=2*l.length:=by
 induction l with
 | nil=>rfl
 | cons r l ih=>rw[List.flatMap_cons,List.length_append,ih];simp[yL];omega
theorem JO {t:qD} (h:qY t=0):yO [] t.reads=0/\ZD none t.outs=0:=by
 unfold qY at h
 split at h
 ·cases h
 ·split at h
  ·rename_i h1;exact(h1 h).elim
  ·rename_i h1;exact⟨by simpa using h1,h⟩
theorem WY {t:qD} (hd:TrD t) (h:qY t=0):(k9 (jK t)).length<=6300000:=by
 obtain⟨h1,h2⟩:=Q3 h
 obtain⟨h3,h4⟩:=JO h
 obtain⟨d1,d2,d3⟩:=hd
 have:=vP (l:=jK t) (n:=1040) (by
  intro x hx
  simp only[jK,List.mem_append,List.mem_cons,List.mem_flatMap,List.not_mem_nil,or_false]at hx
  rcases hx with((rfl|rfl)|⟨r,hr,hx⟩)|⟨m,hm,hx⟩
  ·omega
  ·have:=wN t.reads.length
   rw[yR];omega
  ·have:=ZV (ZW h3 r hr).1
   simp only[y7,List.mem_cons,List.not_mem_nil,or_false]at hx
   rcases hx with rfl|rfl
   ·exact this
   ·split
    ·have:=d2 r hr;omega
    ·simp
  ·have hu:=KG h4 m hm
   simp only[wF,Bool.and_eq_true]at hu
   have:=ZV hu.1
   simp only[yL,List.mem_cons,List.not_mem_nil,or_false]at hx
   rcases hx with rfl|rfl
   ·exact this
   ·have:=d3 m hm;omega)
 have hl:(jK t).length<=3002:=by
  simp only[jK,List.length_append,d6,PE,List.length_cons,List.length_nil];omega
 have:(2*1040+2)*(jK t).length<=(2*1040+2)*3002:=Nat.mul_le_mul_left _ hl
 omega
theorem zci {t:qD} (hd:TrD t) (h:qY t=0):(k9 (jK t)).length<=10000000000:=Nat.le_trans (WY hd h) (by omega)
theorem zdO {t:qD} (hd:TrD t) (h:qY t=0):∀r∈t.reads,okS r:=fun r hr=>⟨hd.2.1 r hr,(ZW (JO h).1 r hr).2⟩
end
section
variable [Sel]
def tkO (d:Nat):Nat->Tok
 | 0=>.full
 | k+1=>.own d (k+1)
theorem zeS (l:List qD) (k:Nat) (h:k<l.length):(l.map q5)[k]?=some (q5 l[k]):=wC q5 l k h
theorem zky (a b:List qD) (ha:∀x∈a,uN x) (hb:∀x∈b,uN x) (hla:a.length<=9223372036854775807) (hlb:b.length<=9223372036854775807) :
  PC Tryz.prog 33 [.av (.slice 56) (qU a),.av (.slice 56) (qU b)] (.av .bool (.b (decide (a=b)))):=by
 refine zow Tryz.func33 cf0 fun imm0 w0=>?_
 by_cases hab:a.length=b.length
 rotate_left
 ·have h1:¬(a.length:Int)=b.length:=by omega
  have h2:¬a=b:=fun e=>hab (by rw[e])
  simp (disch:=omega) [zz,h1,qU,Tryz.f33,h2]
 have h1:(a.length:Int)=b.length:=by omega
 simp (disch:=omega) [zz,h1,qU]
 refine AT.loop' (α:=Nat) (fun k=>St.of [(0,.av (.slice 56) (qU a)),(1,.av (.slice 56) (qU b)),(5,.av (.int .i64) (.i .i64 k))] [] (fun _=>0) [])
  (fun k=>k<=b.length/\∀i,i<k->∀(h1:i<a.length) (h2:i<b.length),a[i]=b[i]) (fun k=>b.length-k) 0 ?_ ?_ ?_
 ·apply Le.of<;>simp[k8,z1,qU]<;>try omega
 ·exact⟨by omega,fun i h=>by omega⟩
 rintro k ⟨hk,hall⟩ KL hN hE
 refine zrd cf0 ?_
 by_cases hlt:k<b.length
 ·have hlt':(k:Int)<b.length:=by omega
  have hga:=zeS a k (by omega)
  have hgb:=zeS b k hlt
  have hlta:(k:Int)<a.length:=by omega
  have hs:=zgg a[k] b[k] (ha _ (List.getElem_mem _)) (hb _ (List.getElem_mem _))
  simp (disch:=omega) [zz,hlt',hlta,hga,hgb,qU]
  (repeat with_reducible refine om ?_)
  refine XF hs rfl rfl (by simp) (by simp[q9,TV.er]) ?_
  by_cases hc:wT a[k] b[k]=true
  ·simp (disch:=omega) [zz,hc]
   (repeat with_reducible refine om ?_)
   refine hN _ (k+1) ?_ ⟨by omega,fun i hi h1 h2=>?_⟩ (by omega)
   ·apply Le.of<;>simp[k8,z1,qU]<;>try omega
   ·rcases Nat.lt_or_ge i k with h|h
    ·exact hall i h h1 h2
    ·have:i=k:=by omega
     subst this;exact WM.1 hc
  ·have hne:¬a=b:=fun e=>hc (WM.2 (by subst e;rfl))
   simp (disch:=omega) [zz,hc]
   (repeat with_reducible refine om ?_)
   refine hE _ _ (by simp) ?_
   simp (disch:=omega) [zz,Tryz.f33,hne]
 ·have hlt':¬(k:Int)<b.length:=by omega
  have hlta:¬(k:Int)<a.length:=by omega
  simp (disch:=omega) [zz,hlt',hlta,qU]
  refine hE _ _ (by simp) ?_
  have:a=b:=Y4 hab fun i h1 h2=>hall i (by omega) h1 h2
  simp (disch:=omega) [zz,Tryz.f33,this]
end
end Go.Proofs.YtognnffjdckalaaGreatDoor
end
