/- The sort of texts. No condition. -/
import Derived.Test.YtfkcpballfhddaaGreatDoorShelf5
import Derived.Test.YtfkcpballfhddaaGreatDoorK11ToKS1
set_option linter.unusedSimpArgs false
set_option linter.unusedVariables false
set_option linter.unusedSectionVars false
set_option maxHeartbeats 64000000
section
set_option maxRecDepth 100000
namespace Go.Proofs.YtfkcpballfhddaaGreatDoor
open Go Go.Ab
open Classical
variable [Sel]
open Go.Sort (grow mapBlock putCells putRow ahead Holds onCells)
theorem zcT {P:Program} {g:Gh} {w:World} {e:TypeId}:∀ {xs ys:List AV} {c:List Value},VL P g w e (xs++ys) c->∃c1 c2,c=c1++c2/\VL P g w e xs c1/\VL P g w e ys c2
 | [],ys,c,h=>⟨[],c,rfl,by simp[VL],h⟩
 | x::xs,ys,c,h=>by
  simp only[List.cons_append,VL]at h
  obtain⟨a,r,rfl,h1,h2⟩:=h
  obtain⟨c1,c2,rfl,h3,h4⟩:=zcT h2
  exact⟨a++c1,c2,by simp,by simp only[VL];exact⟨a,c1,rfl,h1,h3⟩,h4⟩
theorem dJ {w:World} {b:Nat} {cs:Array Value} {E:TypeId} {fz:Nat × Nat} (hb:w.heap[b]?=some (.cells cs E fz)) (f:Array Value->Array Value):mapBlock w b f=w.setRow b (f cs):=by
 have hlt:=(Array.getElem?_eq_some_iff.1 hb).1
 unfold mapBlock World.setRow
 congr 1
 apply Array.ext_getElem?
 intro k
 simp only[Array.getElem?_modify]
 by_cases hk:b=k
 ·subst hk
  simp[hb,onCells]
 ·simp[hk]
theorem zF.grow2 {c:Ctx} {s:St} {a:Act} {w:World} {g:Gh} {β:Nat->Nat} (h:zF c s a w g β):∀(l:List Obj),zF c s a (Go.Sort.grow w l.toArray) g β:=by
 intro l
 induction l generalizing w with
 | nil=>simpa using h
 | cons o l ih =>
  have h1:=h.push o 0 (by omega)
  have eg:({ g with imm:=upd g.imm w.heap.size 0 }:Gh)=g:=by
   have:upd g.imm w.heap.size 0=g.imm:=by
    funext b;simp only[upd];split
    ·rename_i e;rw[e,ZJ h.rep.imm (Nat.le_refl _)]
    ·rfl
   rw[this]
  rw[eg]at h1
  have h2:=ih h1
  have e2:Go.Sort.grow (World.push' w o) l.toArray=Go.Sort.grow w (o::l).toArray:=by
   unfold Go.Sort.grow World.push'
   simp only[World.mk.injEq,and_true]
   apply Array.toList_inj.1
   simp only[Array.toList_append,Array.toList_push,List.append_assoc,List.cons_append,List.nil_append]
  rw[e2]at h2
  exact h2
abbrev enS:List UInt8->Value:=fun l=>Value.string ⟨l.toArray⟩
theorem zeb {P:Program} {g:Gh} {w:World} {e:TypeId} (he:q9 P e=.str):∀(d:List Txt) (c:List Value),VL P g w e (strs d) c<->c=d.map enS
 | [],c=>by simp[strs,VL]
 | b::d,c=>by
  have ih:=zeb (g:=g) (w:=w) he d
  simp only[strs,List.map_cons,VL]at ih |-
  constructor
  ·rintro⟨c1,c2,rfl,h1,h2⟩
   rw[he]at h1
   simp only[VC]at h1
   rw[h1.2,(ih c2).1 h2];rfl
  ·rintro rfl
   exact⟨[_],_,rfl,by rw[he];simp[VC],(ih _).2 rfl⟩
theorem zaP (F:Array (List UInt8)) (cs:Array Value) (h:F.size<=cs.size):(putCells enS 0 F cs).toList=F.toList.map enS++cs.toList.drop F.size:=by
 apply List.ext_getElem?
 intro t
 simp only[putCells,Array.getElem?_toList,Array.getElem?_mapIdx]
 by_cases ht:t<F.size
 ·rw[List.getElem?_append_left (by simpa using ht),Array.getElem?_eq_getElem (by omega),Option.map_some,if_pos ⟨Nat.zero_le _,by omega⟩]
  rw[List.getElem?_map,Array.getElem?_toList,Array.getElem?_eq_getElem ht]
  simp[getElem!_pos F t ht]
 ·rw[List.getElem?_append_right (by simp;omega),List.getElem?_drop]
  have e1:F.size+(t-(F.toList.map enS).length)=t:=by simp;omega
  rw[e1,Array.getElem?_toList]
  cases hc:cs[t]? with
  | none=>rfl
  | some y=>rw[Option.map_some,if_neg (by omega)]
theorem ZA (l:List Txt):(kU l).length=l.length:=by unfold kU;exact List.length_mergeSort _
theorem JU (l:List Txt):(kU l).Perm l:=List.mergeSort_perm _ _
theorem zcY (ts:List Txt) (b cap:Nat) (j:List AV) (hcap:ts.length+j.length=cap) (hn:ts.length<=1000000000) :
  q7 Tryz.prog 22 [.av (.slice 9) (.msl b 9 0 ts.length cap)] [(b,.var (.arr cap 9) (.agg (strs ts++j)))]
   fun r H'=>r=.tup []/\H'=[(b,.var (.arr cap 9) (.agg (strs (kU ts)++j)))]:=by
 intro imm w vs hrep hargs
 obtain⟨vs⟩:=vs
 match vs,hargs with
 | [v1],⟨h1,_⟩ =>
  obtain⟨f1,h1⟩:=h1
  simp only[VC]at h1
  obtain⟨_,h1⟩:=h1
  rw[qK rfl f1,Nat.zero_mul]at h1
  have e1:v1=.slice (some ⟨b,0,none⟩) ts.length cap:=by simpa using h1
  subst e1
  obtain⟨h0,cs,hcs,hvc⟩:=hrep.obj b (.var (.arr cap 9) (.agg (strs ts++j))) (by simp)
  obtain⟨E,fz,hb,hfz⟩:=uV hcs (by rw[ty9];simp)
  simp only[VC]at hvc
  obtain⟨hm,hvl⟩:=hvc
  obtain⟨c1,c2,hcc,hv1,hv2⟩:=zcT hvl
  have hst:=ty9
  rw[zeb hst]at hv1
  subst hv1
  have hle:ts.length<=cs.size:=by
   rw[<-Array.length_toList,hcc];simp
  have hlt:b<w.heap.size:=(Array.getElem?_eq_some_iff.1 hb).1
  have hH:Holds enS w b 0 ts.toArray:=by
   intro t ht
   rw[Nat.zero_add]
   have ht':t<ts.length:=by simpa using ht
   refine⟨?_,?_⟩
   ·rw[YL hb]
    have e3:cs[t]?=cs.toList[t]?:=by simp
    rw[e3,hcc,List.getElem?_append_left (by simpa using ht'),List.getElem?_map,List.getElem?_eq_getElem ht',getElem!_pos _ t ht]
    rfl
   ·simp only[World.frozen?,hb,Bool.and_eq_false_iff,decide_eq_false_iff_not]
    omega
  have hcall:=Tryz.slices_Sort_string b 0 cap ts w hH hlt (by omega)
  refine Calls.mono hcall ?_
  rintro e w' ⟨rfl,n,os,rfl⟩
  have hS:zF ⟨Tryz.prog,0,imm,[(b,.var (.arr cap 9) (.agg (strs ts++j)))],w,none,[]⟩ { env:=fun _=>.junk,loc:=fun _=>none,ver:=fun _=>0,H:=[(b,.var (.arr cap 9) (.agg (strs ts++j)))] } { tmps:=#[],defers:=[] } w (g0 imm) (fun _=>0):={
   defers:=⟨rfl,List.nodup_nil,fun D hD=>by simp at hD⟩
   size:=rfl
   env:=fun t=>trivial
   locs:=fun k d x e=>by simp at e
   inj:=fun k j e=>by simp at e
   rep:=hrep
   toks:=fun k t e=>by simp[g0]at e
   tokd:=fun k k' t t' e=>by simp[g0]at e
   toknew:=fun k v _=>rfl
   step:=JN.refl }
  have hsl:=ZA ts
  have hsz:(kU ts).toArray.size=ts.length:=by simpa using hsl
  have hS1:=hS.drew (w.drawn+n) (Nat.le_add_right _ _)
  have hS2:=hS1.setH (b:=b) (d:=.arr cap 9) (x:=.agg (strs ts++j)) (y:=.agg (strs (kU ts)++j)) (cs:=putCells enS 0 (kU ts).toArray cs) (by simp[k8]) hcs (by simp[putCells]) (by
   rw[zaP _ _ (by rw[hsz];exact hle),hsz,hcc]
   have e4:(ts.map enS++c2).drop ts.length=c2:=by
    rw[List.drop_append,List.drop_of_length_le (by simp)];simp
   rw[e4]
   simp only[VC]
   refine⟨by rw[List.length_append,zV,hsl];exact hcap,yJ ((zeb hst _ _).2 rfl) (JS (w':={ w with drawn:=w.drawn+n }) (Gh.le_refl _) hrep.imm (fun b cs E fz _ hb=>⟨cs,E,fz,hb,rfl,fun _ _=>rfl⟩) _ _ _ hv2)⟩)
  have hS3:=zF.grow2 hS2 os.toList
  have ew:Go.Sort.grow (World.setRow { w with drawn:=w.drawn+n } b (putCells enS 0 (kU ts).toArray cs)) os.toList.toArray=grow (putRow enS (Go.Sort.ahead w n) b 0 (kU ts).toArray) os:=by
   unfold putRow
   rw[dJ (w:=Go.Sort.ahead w n) (b:=b) (cs:=cs) (E:=E) (fz:=fz) hb]
   simp[Go.Sort.ahead]
  rw[ew]at hS3
  have eh:jW [(b,HObj.var (.arr cap 9) (.agg (strs ts++j)))] b (.var (.arr cap 9) (.agg (strs (kU ts)++j)))=[(b,.var (.arr cap 9) (.agg (strs (kU ts)++j)))]:=by simp[jW]
  refine⟨.tuple #[],.tup [],imm,[(b,.var (.arr cap 9) (.agg (strs (kU ts)++j)))],rfl,⟨rfl,rfl⟩,⟨[],rfl,trivial⟩,?_,?_⟩
  ·have:=hS3.rep
   simp only[eh]at this
   exact this
  ·have:=hS3.step
   simp only[eh]at this
   exact this
theorem zaE:q7 Tryz.prog 22 [.av (.slice 9) (.sl .no [])] [] fun r H'=>r=.tup []/\H'=[]:=by
 intro imm w vs hrep hargs
 obtain⟨vs⟩:=vs
 match vs,hargs with
 | [v1],⟨h1,_⟩ =>
  obtain⟨f1,h1⟩:=h1
  simp only[VC]at h1
  obtain⟨e,a,cap,_,h1,_⟩:=h1
  rw[qK rfl f1]at h1
  have e1:v1=.slice a 0 cap:=by simpa using h1
  subst e1
  refine Calls.mono (Tryz.slices_Sort_string_none a cap w) ?_
  rintro e w' ⟨rfl,rfl⟩
  exact⟨.tuple #[],.tup [],imm,[],rfl,⟨rfl,rfl⟩,⟨[],rfl,trivial⟩,hrep,JN.refl⟩
theorem zaF (ts:List Txt) (v:AV) (H:q8) (hrow:KM ts v H) (hn:ts.length<=1000000000) :
  q7 Tryz.prog 22 [.av (.slice 9) v] H fun r H'=>r=.tup []/\KM (kU ts) v H':=by
 rcases hrow with⟨rfl,rfl,rfl⟩|⟨b,cap,j,hj,rfl,hc,rfl⟩
 ·refine q7.sub zaE ?_
  rintro r H' ⟨rfl,rfl⟩ _
  exact⟨[],HSub.refl _,rfl,.inl ⟨by simp[kU],rfl,rfl⟩⟩
 ·refine q7.sub (zcY ts b cap j hc hn) ?_
  rintro r H' ⟨rfl,rfl⟩ _
  exact⟨_,HSub.refl _,rfl,.inr ⟨b,cap,j,hj,by rw[ZA],by rw[ZA];exact hc,rfl⟩⟩
end Go.Proofs.YtfkcpballfhddaaGreatDoor
end
section
set_option maxRecDepth 100000
namespace Go.Proofs.YtfkcpballfhddaaGreatDoor
open Go Go.Ab
open Classical
variable [Sel] [SelPow] [SelMax]
def kpt (g:Txt->Bool) (ts:List Txt):List Txt:=ts.filter fun x=>!g x
theorem ziR {g:Txt->Bool} {ts:List Txt} (h:∀x∈ts,g x=false):kpt g ts=ts:=by
 unfold kpt
 rw[List.filter_eq_self]
 intro x hx;simp[h x hx]
theorem gQ {g:Txt->Bool} {ts:List Txt} {k:Nat} (h:k<ts.length):kpt g (ts.take (k+1))=if g ts[k]=true then kpt g (ts.take k) else kpt g (ts.take k)++[ts[k]]:=by
 unfold kpt
 rw[List.take_succ_eq_append_getElem h,List.filter_append]
 by_cases hs:g ts[k]=true<;>simp[hs]
theorem zoD (g:Txt->Bool) (f:AV) (bt:Nat) (o:HObj) (ts:List Txt) (hf:zdO f bt o g ts) (b cap:Nat) (j:List AV) (hj:JK j) (hb:b≠bt) (hcap:ts.length+j.length=cap) (hn:ts.length<=1000000000) :
  q7 Tryz.prog 173 [.av (.slice 9) (.msl b 9 0 ts.length cap),.av .func f] [(b,yR cap ts j),(bt,o)]
   fun r H'=>∃j',JK j'/\(kpt g ts).length+j'.length=cap/\r=.av (.slice 9) (.msl b 9 0 (kpt g ts).length cap)/\H'=[(b,yR cap (kpt g ts) j'),(bt,o)]:=by
 have hb':¬bt=b:=fun e=>hb e.symm
 obtain⟨ho,hfe,hff⟩:=id hf
 have hre:=YG (cap:=cap) (ts:=ts) hj
 refine zov Tryz.func173 cf0 fun imm0 w0=>?_
 simp (disch:=omega) [zz]
 refine wZ (R:=fun r' H'=>r'=.av (.int .i64) (.i .i64 (ZP g ts))/\H'=[(b,yR cap ts j),(bt,o)]) rfl (by simp[qI]) (by simp) ?_ ?_
 ·have:=zg4 g f bt o ts hf b cap j hj hb hcap hn
  rw[show q8.er [(b,yR cap ts j),(bt,o)]=[(b,yR cap ts j),(bt,o)] by rw[q8.er_cons,q8.er_cons,ho,hre];rfl]
  simpa[TV.er,AV.er,hfe]using this
 rintro r' H' ⟨rfl,rfl⟩
 rcases JZ g ts with⟨he,hall⟩|⟨i,hi,he,hsame,hpre⟩
 ·simp (disch:=omega) [zz,he,Tryz.f173,hre,ho,ziR hall]
  exact⟨j,hj,hcap,rfl⟩
 ·have hk0:kpt g (ts.take i)=ts.take i:=ziR hpre
  have hk1:kpt g (ts.take (i+1))=ts.take i:=by rw[gQ hi,if_pos hsame,hk0]
  have hne:¬(i:Int)=-1:=by omega
  have hsplit:strs ts++j=strs (ts.take i)++(.s ts[i]::([]++(strs (ts.drop (i+1))++j))):=by
   have:ts=ts.take i++ts[i]::ts.drop (i+1):=by simp
   conv=>lhs;rw[this]
   simp only[strs,List.map_append,List.map_cons,List.nil_append,List.append_assoc,List.cons_append]
  simp (disch:=omega) [zz,he,hne]
  refine AT.loop' (α:=Nat × AV × List AV) (fun p=>St.of [(0,.av (.slice 9) (.msl b 9 0 ts.length cap)),(1,.av .func f),(5,.av (.int .i64) (.i .i64 (kpt g (ts.take p.1)).length)),(6,.av (.int .i64) (.i .i64 p.1))] [] (fun _=>0)
    [(b,.var (.arr cap 9) (.agg (strs (kpt g (ts.take p.1))++(p.2.1::(p.2.2++(strs (ts.drop p.1)++j)))))),(bt,o)])
   (fun p=>p.1<=ts.length/\JK (p.2.1::p.2.2)/\(kpt g (ts.take p.1)).length+(p.2.2.length+1)=p.1) (fun p=>ts.length-p.1) (i+1,.s ts[i],[]) ?_ ?_ ?_
  ·have hli:(ts.take i).length=i:=by rw[List.length_take];omega
   apply Le.of<;>simp[zA,qF,hk1,hsplit,yR,hli]<;>try omega
  ·refine⟨by simp only;omega,by simp[JK,AV.erks_eq,AV.erk],?_⟩
   simp only[hk1,List.length_take,List.length_nil];omega
  rintro⟨k,m,mid⟩ ⟨hk,hjm,hlen⟩ KL hN hE
  simp only at hk hjm hlen
  obtain⟨F,hF⟩:∃F,F=kpt g (ts.take k):=⟨_,rfl⟩
  rw[<-hF]at hlen
  have hnx:=fun h:k<ts.length=>gQ (g:=g) h
  simp only[<-hF]at hnx |-
  refine zrd cf0 ?_
  by_cases hlt:k<ts.length
  ·have hlt':(k:Int)<ts.length:=by omega
   have hnx:=hnx hlt
   have hd:strs (ts.drop k)=.s ts[k]::strs (ts.drop (k+1)):=by
    rw[List.drop_eq_getElem_cons hlt];rfl
   have hg:(strs F++(m::(mid++(strs (ts.drop k)++j))))[k]?=some (.s ts[k]):=by
    rw[hd,List.getElem?_append_right (by rw[zV];omega)]
    have:k-(strs F).length=mid.length+1:=by rw[zV];omega
    rw[this,List.getElem?_cons_succ,List.getElem?_append_right (Nat.le_refl _)]
    simp
   have hgi:(strs F++(m::(mid++(strs (ts.drop k)++j))))[F.length]?=some m:=by
    rw[List.getElem?_append_right (by rw[zV];exact Nat.le_refl _)];simp[zV]
   have hst:=zjf (strs F) (mid++(strs (ts.drop k)++j)) m (.s ts[k])
   rw[zV]at hst
   have hmem:=List.getElem_mem hlt
   obtain⟨x,hx⟩:∃x,x=ts[k]:=⟨_,rfl⟩
   rw[<-hx]at hg hst hd hnx hmem
   have hfx:=hff x hmem
   simp (disch:=omega) [zz,hlt',hlt,hg]
   (repeat with_reducible refine om ?_)
   refine ZB (R:=fun r' H'=>r'=.av .bool (.b (g x))/\H'=[(bt,o)]) [(bt,o)] _ (List.Perm.swap _ _ _) (by simp[q8.er_cons,ho]) (by simp[qI]) hfx ?_
   rintro r' H' ⟨rfl,rfl⟩ _
   refine⟨_,HSub.of_perm (List.Perm.swap _ _ _),?_⟩
   by_cases hp:g x=true
   ·rw[if_pos hp]at hnx
    simp (disch:=omega) [zz,hp]
    refine hN _ (k+1,m,mid++[.s x]) ?_ ⟨by simp only;omega,?_,?_⟩ (by simp only;omega)
    ·apply Le.of<;>simp[zA,qF,hnx,hd]<;>try omega
    ·simp only;rw[<-List.cons_append];exact hjm.app (by simp[JK,AV.erks_eq,AV.erk])
    ·simp only[hnx,List.length_append,List.length_cons,List.length_nil];omega
   ·rw[if_neg hp]at hnx
    simp (disch:=omega) [zz,hp,hgi,hst]
    (repeat with_reducible refine om ?_)
    obtain⟨m',mid',hmm⟩:∃m' mid',mid++[.s x]=m'::mid':=by cases mid with
     | nil=>exact⟨_,_,rfl⟩
     | cons a r=>exact⟨_,_,rfl⟩
    have hmm':mid++(.s x::(strs (ts.drop (k+1))++j))=m'::(mid'++(strs (ts.drop (k+1))++j)):=by
     have:=congrArg (·++(strs (ts.drop (k+1))++j)) hmm
     simpa using this
    have hml:mid'.length=mid.length:=by
     have:=congrArg List.length hmm
     simpa using this.symm
    have hjm':JK (m'::mid'):=by
     rw[<-hmm]
     have h1:=hjm.drop 1
     exact JK.app (by simpa using h1) (by simp[JK,AV.erks_eq,AV.erk])
    have heq:strs F++(.s x::(mid++(strs (ts.drop k)++j)))=strs (F++[x])++(m'::(mid'++(strs (ts.drop (k+1))++j))):=by
     rw[hd,List.cons_append,hmm',wX,List.append_assoc];rfl
    refine hN _ (k+1,m',mid') ?_ ⟨by simp only;omega,hjm',?_⟩ (by simp only;omega)
    ·apply Le.of<;>simp[zA,qF,hnx,heq]<;>try omega
    ·simp only[hnx,List.length_append,List.length_cons,List.length_nil];omega
  ·have hlt':¬(k:Int)<ts.length:=by omega
   have hkn:k=ts.length:=by omega
   have hFt:F=kpt g ts:=by rw[hF,hkn,List.take_length]
   subst hkn
   have hcf:¬cap=F.length:=by omega
   have hdr:ts.drop ts.length=[]:=by simp
   have h1:F.length<=ts.length:=by omega
   have h2:ts.length<=cap:=by omega
   have hclr:(strs F++(m::(mid++(strs []++j)))).take F.length++(List.replicate (ts.length-F.length) (.s [])++(strs F++(m::(mid++(strs []++j)))).drop ts.length)=strs F++(List.replicate (ts.length-F.length) (.s [])++j):=by
    have e1:(strs F++(m::(mid++(strs []++j)))).take F.length=strs F:=by
     rw[List.take_append_of_le_length (by rw[zV];exact Nat.le_refl _)];exact List.take_of_length_le (by rw[zV];exact Nat.le_refl _)
    have e2:(strs F++(m::(mid++(strs []++j)))).drop ts.length=j:=by
     have e3:ts.length=(strs F).length+(mid.length+1):=by rw[zV];omega
     rw[e3,List.drop_append]
     have:(strs F).length+(mid.length+1)-(strs F).length=mid.length+1:=by omega
     rw[this,List.drop_of_length_le (by omega),List.drop_succ_cons]
     simp[strs]
    rw[e1,e2]
   have hz:JK (List.replicate (ts.length-F.length) (.s [])):=JK.rep rfl _
   have hlr:(List.replicate (ts.length-F.length) (AV.s [])).length=ts.length-F.length:=List.length_replicate
   have her:=(JK.app (JK.strs F) (hz.app hj))
   unfold JK at her
   simp (disch:=omega) [zz,hlt',hdr,hcf]
   refine hE _ _ (by simp) ?_
   simp (disch:=omega) [zz,hcf,hclr,hdr]
   (repeat with_reducible refine om ?_)
   simp (disch:=omega) [zz,Tryz.f173,hclr,her,ho]
   exact⟨List.replicate (ts.length-F.length) (.s [])++j,hz.app hj,by rw[List.length_append,hlr,<-hFt];omega,by rw[hFt],by rw[<-hFt];rfl⟩
theorem zkg (g:Txt->Bool) (f:AV) (bt:Nat) (o:HObj) (ts:List Txt) (hf:zdO f bt o g ts) (v:AV) (H:q8) (hrow:KM ts v H) (hb:∀b∈H.keys,b≠bt) (hn:ts.length<=1000000000) :
  q7 Tryz.prog 173 [.av (.slice 9) v,.av .func f] (H++[(bt,o)]) fun r H'=>∃v' H1,r=.av (.slice 9) v'/\KM (kpt g ts) v' H1/\(∀b,b∈H1.keys->b∈H.keys)/\H'=H1++[(bt,o)]:=by
 have ho:=hf.1
 have hfe:=hf.2.1
 rcases hrow with⟨rfl,rfl,rfl⟩|⟨b,cap,j,hj,rfl,hc,rfl⟩
 ·refine zov Tryz.func173 cf0 fun imm0 w0=>?_
  simp (disch:=omega) [zz]
  refine wZ (R:=fun r' H'=>r'=.av (.int .i64) (.i .i64 (-1))/\H'=[(bt,o)]) rfl (by simp[qI]) (by simp) ?_ ?_
  ·have:=zcG f bt o ho
   simpa[TV.er,AV.er,q8.er_cons,ho,hfe]using this
  rintro r' H' ⟨rfl,rfl⟩
  simp (disch:=omega) [zz,Tryz.f173,ho]
  exact .inl ⟨rfl,rfl,rfl⟩
 ·have hbb:b≠bt:=hb b (by simp[q8.keys])
  refine q7.sub (zoD g f bt o ts hf b cap j hj hbb hc hn) ?_
  rintro r H' ⟨j',h1,h2,rfl,rfl⟩ _
  exact⟨_,HSub.refl _,_,[(b,yR cap (kpt g ts) j')],rfl,.inr ⟨b,cap,j',h1,rfl,h2,rfl⟩,by simp[q8.keys],rfl⟩
theorem G3:∀(l:List Txt) (y x:Txt),kH (l++[y,x])=if y=x then kH (l++[y]) else kH (l++[y])++[x]
 | [],y,x=>by
  by_cases h:y=x<;>simp[kH,h]
 | [a],y,x=>by
  have ih:=G3 [] y x
  simp only[List.nil_append,List.cons_append,kH]at ih |-
  by_cases h:y=x
  ·subst h;by_cases h2:a=y<;>simp[h2]
  ·by_cases h2:a=y<;>simp[h,h2]
 | a::b::l,y,x=>by
  have ih:=G3 (b::l) y x
  simp only[List.cons_append,kH]at ih |-
  rw[ih]
  by_cases h:y=x
  ·simp[h]
  ·by_cases h2:a=b<;>simp[h,h2]
theorem zbm (ts:List Txt) (k:Nat) (h:k+1<ts.length):kH (ts.take (k+2))=if ts[k]=ts[k+1] then kH (ts.take (k+1)) else kH (ts.take (k+1))++[ts[k+1]]:=by
 have h0:k<ts.length:=by omega
 have e1:ts.take (k+2)=ts.take k++[ts[k],ts[k+1]]:=by
  rw[show k+2=(k+1)+1 from rfl,List.take_succ_eq_append_getElem h,List.take_succ_eq_append_getElem h0,List.append_assoc];rfl
 have e2:ts.take (k+1)=ts.take k++[ts[k]]:=List.take_succ_eq_append_getElem h0
 rw[e1,e2,G3]
theorem DD:∀l:List Txt,(kH l).length<=l.length
 | []=>by simp[kH]
 | [x]=>by simp[kH]
 | x::y::r=>by
  have:=DD (y::r)
  simp only[kH]
  split<;>simp only[List.length_cons]at this |-<;>omega
theorem zkJ (ts:List Txt):kH (ts.take 1)=ts.take 1:=by
 cases ts<;>simp[kH]
theorem zhV (ts:List Txt) (b cap:Nat) (j:List AV) (hj:JK j) (hcap:ts.length+j.length=cap) (hn:ts.length<=1000000000) :
  q7 Tryz.prog 23 [.av (.slice 9) (.msl b 9 0 ts.length cap)] [(b,yR cap ts j)]
   fun r H'=>∃j',JK j'/\(kH ts).length+j'.length=cap/\r=.av (.slice 9) (.msl b 9 0 (kH ts).length cap)/\H'=[(b,yR cap (kH ts) j')]:=by
 have hre:=YG (cap:=cap) (ts:=ts) hj
 refine zov Tryz.func23 cf0 fun imm0 w0=>?_
 by_cases h2:ts.length<2
 ·have h2':(ts.length:Int)<2:=by omega
  have hc:kH ts=ts:=by
   match ts,h2 with
   | [],_=>rfl
   | [x],_=>rfl
  simp (disch:=omega) [zz,h2',Tryz.f23,hre,hc]
  exact⟨j,hj,hcap,rfl⟩
 have h2':¬(ts.length:Int)<2:=by omega
 simp (disch:=omega) [zz,h2']
 refine AT.loop' (α:=Nat) (fun i=>St.of [(0,.av (.slice 9) (.msl b 9 0 ts.length cap)),(3,.av (.int .i64) (.i .i64 ((i:Int)+1)))] [] (fun _=>0) [(b,yR cap ts j)])
  (fun i=>i+1<=ts.length/\kH (ts.take (i+1))=ts.take (i+1)) (fun i=>ts.length-i) 0 ?_ ?_ ?_
 ·apply Le.of<;>simp[zA,qF,qJ]<;>try omega
 ·exact⟨by omega,zkJ ts⟩
 rintro i ⟨hi,hci⟩ KL hN hE
 refine zrd cf0 ?_
 by_cases hlt:i+1<ts.length
 rotate_left
 ·have hlt':¬(i:Int)+1<ts.length:=by omega
  have hil:i+1=ts.length:=by omega
  rw[hil,List.take_length]at hci
  simp (disch:=omega) [zz,hlt']
  refine hE _ _ (by simp) ?_
  simp (disch:=omega) [zz,Tryz.f23,hre,hci]
  exact⟨j,hj,hcap,rfl⟩
 have hlt':(i:Int)+1<ts.length:=by omega
 have hg1:=XN ts j (i+1) hlt
 have hg0:=XN ts j i (by omega)
 have hct:=zbm ts i hlt
 simp (disch:=omega) [zz,hlt',yR,hg1,hg0]
 refine⟨by omega,by omega,fun heq=>?_,fun hne=>?_⟩
 rotate_left
 ·refine hN _ (i+1) ?_ ⟨by omega,?_⟩ (by omega)
  ·apply Le.of<;>simp[zA,qF,qJ,yR]<;>try omega
  ·have hne':¬ts[i]=ts[i+1]:=fun e=>hne e.symm
   rw[show i+1+1=i+2 from rfl,hct,if_neg hne',hci]
   exact(List.take_succ_eq_append_getElem hlt).symm
 rw[if_pos heq.symm,hci]at hct
 obtain⟨L,hL⟩:∃L,i+1+L=ts.length:=⟨ts.length-(i+1),by omega⟩
 obtain⟨C,hC⟩:∃C,i+1+C=cap:=⟨cap-(i+1),by omega⟩
 have eL:ts.length-(i+1)=L:=by omega
 have eC:cap-(i+1)=C:=by omega
 have hcc:¬cap=i+1:=by omega
 refine⟨by omega,by omega,by omega,?_⟩
 refine AT.loop' (α:=Nat × List AV) (fun p=>St.of [(0,.av (.slice 9) (.msl b 9 0 ts.length cap)),(3,.av (.int .i64) (.i .i64 (kH (ts.take (i+p.1+2))).length)),(4,.av (.slice 9) (.msl b 9 (i+1) L C)),(5,.av (.int .i64) (.i .i64 ((p.1:Int)+1)))] [] (fun _=>0)
   [(b,.var (.arr cap 9) (.agg (strs (kH (ts.take (i+p.1+2)))++(p.2++(strs (ts.drop (i+1+p.1))++j)))))])
  (fun p=>p.1+1<=L/\JK p.2/\(kH (ts.take (i+p.1+2))).length+p.2.length=i+1+p.1) (fun p=>L-p.1) (0,[]) ?_ ?_ ?_
 ·have hcl:(ts.take (i+1)).length=i+1:=by rw[List.length_take];omega
  have hsp:strs ts++j=strs (ts.take (i+1))++([]++(strs (ts.drop (i+1))++j)):=by
   conv=>lhs;rw[<-List.take_append_drop (i+1) ts]
   simp only[strs,List.map_append,List.nil_append,List.append_assoc]
  have hmin:min (i+1) ts.length=i+1:=by omega
  apply Le.of<;>simp[zA,qF,hct,hcl,hmin,eL,eC,hsp,hcc]
 ·refine⟨by omega,JK.nil,?_⟩
  simp only[Nat.add_zero,hct,List.length_take,List.length_nil]
  omega
 rintro⟨q,mid⟩ ⟨hq,hjm,hlen⟩ KL2 hN2 hE2
 simp only at hq hjm hlen
 obtain⟨F,hF⟩:∃F,F=kH (ts.take (i+q+2)):=⟨_,rfl⟩
 rw[<-hF]at hlen
 have hnx:=fun h:i+q+1+1<ts.length=>zbm ts (i+q+1) h
 simp only[show i+q+1+1=i+q+2 from rfl,<-hF]at hnx |-
 refine zrd cf0 ?_
 by_cases hq2:q+1<L
 ·have hq2':(q:Int)+1<L:=by omega
  have hnx:=hnx (by omega)
  have hk:i+1+q<ts.length:=by omega
  have hk2:i+q+2<ts.length:=by omega
  obtain⟨y,hy⟩:∃y,y=ts[i+1+q]:=⟨_,rfl⟩
  obtain⟨x,hx⟩:∃x,x=ts[i+q+2]:=⟨_,rfl⟩
  have hd:strs (ts.drop (i+1+q))=.s y::strs (ts.drop (i+1+(q+1))):=by
   rw[List.drop_eq_getElem_cons hk,hy];rfl
  have hd2:(strs (ts.drop (i+1+(q+1)))++j)[0]?=some (.s x):=by
   have e:i+1+(q+1)=i+q+2:=by omega
   rw[e,List.drop_eq_getElem_cons hk2,hx];rfl
  have hy2:ts[i+q+1]=y:=by rw[hy];congr 1;omega
  rw[hy2,<-hx]at hnx
  have hgy:(strs F++(mid++(strs (ts.drop (i+1+q))++j)))[i+1+q]?=some (.s y):=by
   rw[hd,List.getElem?_append_right (by rw[zV];omega),zV,List.getElem?_append_right (by omega)]
   have:i+1+q-F.length-mid.length=0:=by omega
   rw[this];rfl
  have hgx:(strs F++(mid++(strs (ts.drop (i+1+q))++j)))[i+1+(q+1)]?=some (.s x):=by
   rw[hd,List.getElem?_append_right (by rw[zV];omega),zV,List.getElem?_append_right (by omega)]
   have:i+1+(q+1)-F.length-mid.length=0+1:=by omega
   rw[this,List.cons_append,List.getElem?_cons_succ];exact hd2
  obtain⟨m',mid',hmm⟩:∃m' mid',mid++[.s y]=m'::mid':=by cases mid with
   | nil=>exact⟨_,_,rfl⟩
   | cons a r=>exact⟨_,_,rfl⟩
  have hmm':mid++(strs (ts.drop (i+1+q))++j)=m'::(mid'++(strs (ts.drop (i+1+(q+1)))++j)):=by
   rw[hd]
   have:=congrArg (·++(strs (ts.drop (i+1+(q+1)))++j)) hmm
   simpa using this
  have hml:mid'.length=mid.length:=by
   have:=congrArg List.length hmm
   simpa using this.symm
  have hjm0:JK (mid++[.s y]):=hjm.app (by simp[JK,AV.erks_eq,AV.erk])
  have hst:=zjf (strs F) (mid'++(strs (ts.drop (i+1+(q+1)))++j)) m' (.s x)
  rw[zV,<-hmm']at hst
  have hgF:(strs F++(mid++(strs (ts.drop (i+1+q))++j)))[F.length]?=some m':=by
   rw[hmm',List.getElem?_append_right (by rw[zV];exact Nat.le_refl _)];simp[zV]
  have hFn:F.length<ts.length:=by omega
  simp (disch:=omega) [zz,hq2',hgx,hgy,hst,hgF,hFn]
  have hnx':kH (ts.take (i+(q+1)+2))=if y=x then F else F++[x]:=by
   rw[show i+(q+1)+2=i+q+1+2 by omega];exact hnx
  refine⟨by omega,by omega,fun hxy=>?_,fun hxy=>?_⟩
  ·rw[if_pos hxy.symm]at hnx'
   refine hN2 _ (q+1,mid++[.s y]) ?_ ⟨by simp only;omega,hjm0,?_⟩ (by simp only;omega)
   ·apply Le.of<;>simp[zA,qF,hnx',hd]
   ·simp only[hnx',List.length_append,List.length_cons,List.length_nil];omega
  ·have hyx:¬y=x:=fun e=>hxy e.symm
   rw[if_neg hyx]at hnx'
   have hjm':JK mid':=by
    have:=hjm0
    rw[hmm]at this
    exact this.drop 1
   refine⟨by omega,?_⟩
   refine hN2 _ (q+1,mid') ?_ ⟨by simp only;omega,hjm',?_⟩ (by simp only;omega)
   ·have heq2:strs F++(AV.s x::(mid'++(strs (ts.drop (i+1+(q+1)))++j)))=strs (F++[x])++(mid'++(strs (ts.drop (i+1+(q+1)))++j)):=by rw[wX,List.append_assoc];rfl
    apply Le.of<;>simp[zA,qF,hnx',heq2]
   ·simp only[hnx',List.length_append,List.length_cons,List.length_nil];omega
 ·have hq2':¬(q:Int)+1<L:=by omega
  have hFt:F=kH ts:=by
   rw[hF,List.take_of_length_le (by omega)]
  simp (disch:=omega) [zz,hq2']
  refine hE2 _ _ (by simp) ?_
  have hz:JK (List.replicate (ts.length-F.length) (.s [])):=JK.rep rfl _
  have hlr:(List.replicate (ts.length-F.length) (AV.s [])).length=ts.length-F.length:=List.length_replicate
  have h1:F.length<=ts.length:=by omega
  have hcf:¬cap=F.length:=by omega
  have hclr:(strs F++(mid++(strs (ts.drop (i+1+q))++j))).take F.length++(List.replicate (ts.length-F.length) (.s [])++(strs F++(mid++(strs (ts.drop (i+1+q))++j))).drop ts.length)=strs F++(List.replicate (ts.length-F.length) (.s [])++j):=by
   have e1:(strs F++(mid++(strs (ts.drop (i+1+q))++j))).take F.length=strs F:=by
    rw[List.take_append_of_le_length (by rw[zV];exact Nat.le_refl _)];exact List.take_of_length_le (by rw[zV];exact Nat.le_refl _)
   have e2:(strs F++(mid++(strs (ts.drop (i+1+q))++j))).drop ts.length=j:=by
    have e3:strs F++(mid++(strs (ts.drop (i+1+q))++j))=(strs F++mid++strs (ts.drop (i+1+q)))++j:=by simp
    rw[e3]
    exact List.drop_left' (by simp[zV];omega)
   rw[e1,e2]
  have her:=(JK.app (JK.strs F) (hz.app hj))
  unfold JK at her
  simp (disch:=omega) [zz,hcf,hclr]
  (repeat with_reducible refine om ?_)
  refine hE _ _ (by simp) ?_
  simp (disch:=omega) [zz,Tryz.f23,her]
  exact⟨List.replicate (ts.length-F.length) (.s [])++j,hz.app hj,by rw[List.length_append,hlr,<-hFt];omega,by rw[hFt],by rw[<-hFt];rfl⟩
theorem zbs (ts:List Txt) (v:AV) (H:q8) (hrow:KM ts v H) (hn:ts.length<=1000000000) :
  q7 Tryz.prog 23 [.av (.slice 9) v] H fun r H'=>∃v',r=.av (.slice 9) v'/\KM (kH ts) v' H':=by
 rcases hrow with⟨rfl,rfl,rfl⟩|⟨b,cap,j,hj,rfl,hc,rfl⟩
 ·refine zov Tryz.func23 cf0 fun imm0 w0=>?_
  simp (disch:=omega) [zz,Tryz.f23]
  exact .inl ⟨rfl,rfl,rfl⟩
 ·refine q7.sub (zhV ts b cap j hj hc hn) ?_
  rintro r H' ⟨j',h1,h2,rfl,rfl⟩ _
  exact⟨_,HSub.refl _,_,rfl,.inr ⟨b,cap,j',h1,rfl,h2,rfl⟩⟩
end Go.Proofs.YtfkcpballfhddaaGreatDoor
end
section
set_option maxRecDepth 100000
namespace Go.Proofs.YtfkcpballfhddaaGreatDoor
open Go Go.Ab
open Classical
variable [Sel] [SelPow] [SelMax]
noncomputable def vD (t:Txt) (ta ea:AV) (K:Nat) (asks:Txt) (waits:Bool) (over:DoV):HObj:=if 65536<t.length then qP ta ea [] K asks waits ⟨4,[],[],6⟩ else qP ta ea t K asks waits over
theorem zeh {t:Txt} {ta ea:AV} {K:Nat} {asks:Txt} {waits:Bool} {over:DoV} (h1:ta.erk=ta) (h2:ea.erk=ea):(vD t ta ea K asks waits over).er=vD t ta ea K asks waits over:=by
 unfold vD;split<;>exact JR h1 h2
abbrev zhs:Cfg:=⟨fun n=>n==6,fun n=>n==31⟩
section
variable (R:Nat) (arg:Txt) (ws:List Txt) (v:AV) (rowH:q8) (hrow:KM ws v rowH) (hn:ws.length<=1000000000) (ta ea:AV) (buf:Txt) (K:Nat) (asks:Txt) (waits:Bool) (over:DoV) (h1:ta.erk=ta) (h2:ea.erk=ea)
include hrow hn h1 h2
theorem zlr (hl:(jU (kU ws)).length<=1000000000) :
  q7 Tryz.prog 149 [.av .ptr (.ptr R wH []),.av .str (.s zR),.av .str (.s arg),.av (.slice 9) v] ((R,qP ta ea buf K asks waits over)::rowH) fun r H'=>r=.tup []/\H'=[(R,vD (jU (kU ws)) ta ea K asks waits over)]:=by
 obtain⟨hrer,hver⟩:=hrow.er
 have heo:=JR (ta:=ta) (ea:=ea) (buf:=buf) (K:=K) (asks:=asks) (waits:=waits) (over:=over) h1 h2
 have hle:=zeh (t:=jU (kU ws)) (K:=K) (asks:=asks) (waits:=waits) (over:=over) h1 h2
 refine q7.sub (R:=fun y H'=>y=.tup []/\∃H2,Ab.HSub H2 H'/\H2=[(R,vD (jU (kU ws)) ta ea K asks waits over)]) ?_ fun y H' ⟨h1,H2,h2,h3⟩ _=>⟨H2,h2,h1,h3⟩
 refine zov Tryz.func149 zhs fun imm0 w0=>?_
 simp (disch:=omega) [zz,zR]
 intro b nb nb2
 refine qD (R:=fun y H'=>y=.tup []/\KM (kU ws) v H') rowH [(R,qP ta ea buf K asks waits over),(b,.var .str (.s arg))] ?_ rfl (by simp[qI]) (by simp) ?_ ?_
 ·refine List.perm_iff_count.2 fun a=>?_
  simp only[List.count_append,List.count_cons,List.count_nil]
  omega
 ·rw[hrer]
  simpa[TV.er,AV.er,hver]using zaF ws v rowH hrow hn
 rintro y H1 ⟨rfl,hrow1⟩ _
 refine⟨_,HSub.refl _,?_⟩
 simp (disch:=omega) [zz]
 obtain⟨hrer1,hver1⟩:=hrow1.er
 refine qD (R:=fun y H'=>y=.tup []/\H'=[(R,vD (jU (kU ws)) ta ea K asks waits over)]) ((R,qP ta ea buf K asks waits over)::H1) [(b,.var .str (.s arg))] ?_ rfl (by simp[qI]) (by simp) ?_ ?_
 ·refine List.perm_iff_count.2 fun a=>?_
  simp only[List.count_append,List.count_cons,List.count_nil]
  omega
 ·rw[q8.er_cons,hrer1,heo]
  have:=vV R (kU ws) v H1 hrow1 hl (by rw[ZA];exact hn) ta ea buf K asks waits over h1 h2
  simpa[TV.er,AV.er,hver,vD]using this
 rintro y H' ⟨rfl,rfl⟩ _
 refine⟨_,HSub.refl _,?_⟩
 simp (disch:=omega) [zz,Tryz.f149,hle]
 exact HSub.of_sub (List.Sublist.cons_cons _ (List.nil_sublist _))
theorem zkf (hl:(jU (kH ws)).length<=1000000000) :
  q7 Tryz.prog 149 [.av .ptr (.ptr R wH []),.av .str (.s zW),.av .str (.s arg),.av (.slice 9) v] ((R,qP ta ea buf K asks waits over)::rowH) fun r H'=>r=.tup []/\H'=[(R,vD (jU (kH ws)) ta ea K asks waits over)]:=by
 obtain⟨hrer,hver⟩:=hrow.er
 have heo:=JR (ta:=ta) (ea:=ea) (buf:=buf) (K:=K) (asks:=asks) (waits:=waits) (over:=over) h1 h2
 have hle:=zeh (t:=jU (kH ws)) (K:=K) (asks:=asks) (waits:=waits) (over:=over) h1 h2
 refine q7.sub (R:=fun y H'=>y=.tup []/\∃H2,Ab.HSub H2 H'/\H2=[(R,vD (jU (kH ws)) ta ea K asks waits over)]) ?_ fun y H' ⟨h1,H2,h2,h3⟩ _=>⟨H2,h2,h1,h3⟩
 refine zov Tryz.func149 zhs fun imm0 w0=>?_
 simp (disch:=omega) [zz,zW]
 intro b nb nb2
 refine qD (R:=fun y H'=>∃v',y=.av (.slice 9) v'/\KM (kH ws) v' H') rowH [(R,qP ta ea buf K asks waits over),(b,.var .str (.s arg))] ?_ rfl (by simp[qI]) (by simp) ?_ ?_
 ·refine List.perm_iff_count.2 fun a=>?_
  simp only[List.count_append,List.count_cons,List.count_nil]
  omega
 ·rw[hrer]
  simpa[TV.er,AV.er,hver]using zbs ws v rowH hrow hn
 rintro y H1 ⟨v',rfl,hrow1⟩ _
 refine⟨_,HSub.refl _,?_⟩
 simp (disch:=omega) [zz]
 obtain⟨hrer1,hver1⟩:=hrow1.er
 refine qD (R:=fun y H'=>y=.tup []/\H'=[(R,vD (jU (kH ws)) ta ea K asks waits over)]) ((R,qP ta ea buf K asks waits over)::H1) [(b,.var .str (.s arg))] ?_ rfl (by simp[qI]) (by simp) ?_ ?_
 ·refine List.perm_iff_count.2 fun a=>?_
  simp only[List.count_append,List.count_cons,List.count_nil]
  omega
 ·rw[q8.er_cons,hrer1,heo]
  have:=vV R (kH ws) v' H1 hrow1 hl (Nat.le_trans (DD _) hn) ta ea buf K asks waits over h1 h2
  simpa[TV.er,AV.er,hver1,vD]using this
 rintro y H' ⟨rfl,rfl⟩ _
 refine⟨_,HSub.refl _,?_⟩
 simp (disch:=omega) [zz,Tryz.f149,hle]
 exact HSub.of_sub (List.Sublist.cons_cons _ (List.nil_sublist _))
end
theorem znv (b:Nat) (arg x:Txt) (hx:x.length<=1000000000):q7 Tryz.prog 174 [.av .str (.s x),.av .ptr (.ptr b .str [])] [(b,zE arg)] fun r H'=>r=.av .bool (.b (!Lib.contains x arg))/\H'=[(b,zE arg)]:=by
 refine zov Tryz.func174 cf0 fun imm0 w0=>?_
 simp (disch:=omega) [zz,zE]
 refine zcv (cC x arg (by omega)) ?_
 simp (disch:=omega) [zz,Tryz.f174]
theorem zkk (R:Nat) (arg:Txt) (ws:List Txt) (v:AV) (rowH:q8) (hrow:KM ws v rowH) (hn:ws.length<=1000000000) (hx:∀x∈ws,x.length<=1000000000) (ta ea:AV) (buf:Txt) (K:Nat) (asks:Txt) (waits:Bool) (over:DoV) (h1:ta.erk=ta) (h2:ea.erk=ea)
  (hl:(jU (ws.filter fun s=>Lib.contains s arg)).length<=1000000000) :
  q7 Tryz.prog 149 [.av .ptr (.ptr R wH []),.av .str (.s zS),.av .str (.s arg),.av (.slice 9) v] ((R,qP ta ea buf K asks waits over)::rowH) fun r H'=>r=.tup []/\H'=[(R,vD (jU (ws.filter fun s=>Lib.contains s arg)) ta ea K asks waits over)]:=by
 obtain⟨hrer,hver⟩:=hrow.er
 have heo:=JR (ta:=ta) (ea:=ea) (buf:=buf) (K:=K) (asks:=asks) (waits:=waits) (over:=over) h1 h2
 have hle:=zeh (t:=jU (ws.filter fun s=>Lib.contains s arg)) (K:=K) (asks:=asks) (waits:=waits) (over:=over) h1 h2
 have hkp:kpt (fun s=>!Lib.contains s arg) ws=ws.filter fun s=>Lib.contains s arg:=by simp[kpt]
 obtain⟨ks,hks⟩:∃ks,ks=ws.filter fun s=>Lib.contains s arg:=⟨_,rfl⟩
 have hkl:ks.length<=ws.length:=by rw[hks];exact List.length_filter_le _ _
 rw[<-hks]at hl hle hkp |-
 refine q7.sub (R:=fun y H'=>y=.tup []/\∃H2,Ab.HSub H2 H'/\H2=[(R,vD (jU ks) ta ea K asks waits over)]) ?_ fun y H' ⟨h1,H2,h2,h3⟩ _=>⟨H2,h2,h1,h3⟩
 refine zov Tryz.func149 zhs fun imm0 w0=>?_
 simp (disch:=omega) [zz,zS]
 intro b nb nb2
 refine qD (R:=fun y H'=>∃v' H1,y=.av (.slice 9) v'/\KM ks v' H1/\(∀b,b∈H1.keys->b∈rowH.keys)/\H'=H1++[(b,zE arg)]) (rowH++[(b,zE arg)]) [(R,qP ta ea buf K asks waits over)] ?_ rfl (by simp[qI]) (by simp) ?_ ?_
 ·refine List.perm_iff_count.2 fun a=>?_
  simp only[List.count_append,List.count_cons,List.count_nil,zE]
  omega
 ·rw[q8.er_app,hrer]
  have hp:zdO (.fn 174 [.ptr b .str []]) b (zE arg) (fun s=>!Lib.contains s arg) ws:=⟨rfl,rfl,fun x hxm=>⟨_,rfl,by simp,by simpa[TV.er,AV.er]using znv b arg x (hx x hxm)⟩⟩
  have:=zkg (fun s=>!Lib.contains s arg) _ b (zE arg) ws hp v rowH hrow (fun b' hb e=>nb2 (e▸hb)) hn
  rw[hkp]at this
  simpa[TV.er,AV.er,hver,q8.er_cons,zE,HObj.er_var,AV.erk]using this
 rintro y H0 ⟨v',H1,rfl,hrow1,_,rfl⟩ _
 refine⟨_,HSub.refl _,?_⟩
 simp (disch:=omega) [zz]
 obtain⟨hrer1,hver1⟩:=hrow1.er
 refine qD (R:=fun y H'=>y=.tup []/\H'=[(R,vD (jU ks) ta ea K asks waits over)]) ((R,qP ta ea buf K asks waits over)::H1) [(b,zE arg)] ?_ rfl (by simp[qI]) (by simp) ?_ ?_
 ·refine List.perm_iff_count.2 fun a=>?_
  simp only[List.count_append,List.count_cons,List.count_nil]
  omega
 ·rw[q8.er_cons,hrer1,heo]
  have:=vV R ks v' H1 hrow1 hl (Nat.le_trans hkl hn) ta ea buf K asks waits over h1 h2
  simpa[TV.er,AV.er,hver1,vD]using this
 rintro y H' ⟨rfl,rfl⟩ _
 refine⟨_,HSub.refl _,?_⟩
 simp (disch:=omega) [zz,Tryz.f149,hle]
 exact HSub.of_sub (List.Sublist.cons_cons _ (List.nil_sublist _))
end Go.Proofs.YtfkcpballfhddaaGreatDoor
end
