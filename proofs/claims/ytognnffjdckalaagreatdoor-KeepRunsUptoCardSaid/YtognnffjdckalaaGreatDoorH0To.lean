/- A db as one row of traces: the document. No condition. -/
import Derived.Test.YtognnffjdckalaaGreatDoorD8ToD9a
set_option linter.unusedSimpArgs false
set_option linter.unusedVariables false
set_option linter.unusedSectionVars false
set_option maxHeartbeats 64000000
set_option maxRecDepth 100000
namespace Go.Proofs.YtognnffjdckalaaGreatDoor
open Go Go.Ab
open Classical
section
variable [Sel] [SelPow]
def OKD (L:DbL):Prop:=(L.map Prod.fst).Nodup/\∀p∈L,p.2≠[]/\∀t∈p.2,t.key=p.1
noncomputable def w9 (L:DbL):List qD:=(yB (L.map Prod.fst)).flatMap (getD L)
def DU (l:List qD) (k:Dig):List qD:=l.filter fun x=>decide (x.key=k)
def YB (l:List qD) (k:Dig):List qD:=l.filter fun x=>decide (x.key≠k)
def gP (k:Dig) (L:DbL):DbL:=L.filter fun p=>decide (p.1≠k)
theorem zfR {L:DbL} (h:(L.map Prod.fst).Nodup) {p:Dig × List qD} (hp:p∈L):getD L p.1=p.2:=by
 induction L with
 | nil=>simp at hp
 | cons q r ih =>
  rw[List.map_cons,List.nodup_cons]at h
  rcases List.mem_cons.1 hp with rfl|hp
  ·simp[getD]
  ·have:¬q.1=p.1:=fun e=>h.1 (e▸List.mem_map.2 ⟨p,hp,rfl⟩)
   have ih:=ih h.2 hp
   simp only[getD,List.find?_cons,this,decide_false]at ih |-
   exact ih
theorem YP {L:DbL} (h:OKD L) {k:Dig} (hk:k∈L.map Prod.fst):getD L k≠[]/\∀t∈getD L k,t.key=k:=by
 obtain⟨p,hp,rfl⟩:=List.mem_map.1 hk
 rw[zfR h.1 hp]
 exact h.2 p hp
theorem zdZ {L:DbL} {k:Dig} (hk:k∉L.map Prod.fst):getD L k=[]:=by
 unfold getD
 have:L.find? (fun p=>decide (p.1=k))=none:=List.find?_eq_none.2 fun p hp=>by
  have:¬p.1=k:=fun e=>hk (e▸List.mem_map.2 ⟨p,hp,rfl⟩)
  simp[this]
 rw[this]
theorem srtK_mem {l:List Dig} {k:Dig}:k∈yB l<->k∈l:=(y9 l).1.mem_iff
theorem gH {l:List Dig} (h:l.Nodup):(yB l).Nodup:=(y9 l).1.nodup_iff.2 h
theorem dU {k:Dig} {f:Dig->List qD}:∀ {ks:List Dig},ks.Nodup->(∀q∈ks,∀t∈f q,t.key=q)->(ks.flatMap f).filter (fun x=>decide (x.key=k))=if k∈ks then f k else []
 | [],_,_=>by simp
 | q::ks,hn,h=>by
  rw[List.nodup_cons]at hn
  have ih:=dU (k:=k) hn.2 fun q' hq=>h q' (List.mem_cons_of_mem _ hq)
  rw[List.flatMap_cons,List.filter_append,ih]
  by_cases e:q=k
  ·subst e
   rw[if_neg hn.1,if_pos (by simp),List.append_nil]
   exact List.filter_eq_self.2 fun t ht=>by simp[h q (by simp) t ht]
  ·have:(f q).filter (fun x=>decide (x.key=k))=[]:=List.filter_eq_nil_iff.2 fun t ht=>by simp[h q (by simp) t ht,e]
   rw[this,List.nil_append]
   by_cases hm:k∈ks
   ·rw[if_pos hm,if_pos (List.mem_cons_of_mem _ hm)]
   ·rw[if_neg hm,if_neg (by simp[hm];exact fun e2=>e e2.symm)]
theorem zee {L:DbL} (h:OKD L) (k:Dig):DU (w9 L) k=getD L k:=by
 unfold DU w9
 rw[dU (gH h.1) fun q hq=>(YP h (srtK_mem.1 hq)).2]
 by_cases hk:k∈L.map Prod.fst
 ·rw[if_pos (srtK_mem.2 hk)]
 ·rw[if_neg fun e=>hk (srtK_mem.1 e),zdZ hk]
theorem X9 (k:Dig) (L:DbL):(gP k L).map Prod.fst=(L.map Prod.fst).filter fun q=>decide (q≠k):=by
 unfold gP
 rw[List.filter_map];rfl
theorem zgL {k q:Dig} {L:DbL}:getD (gP k L) q=if q=k then [] else getD L q:=by
 induction L with
 | nil=>simp[gP,getD]
 | cons p r ih =>
  unfold gP at ih |-
  by_cases e:p.1=k
  ·rw[List.filter_cons_of_neg (by simp[e]),ih]
   by_cases e2:q=k
   ·rw[if_pos e2,if_pos e2]
   ·rw[if_neg e2,if_neg e2]
    have:¬p.1=q:=fun e3=>e2 (e3▸e)
    simp[getD,this]
  ·rw[List.filter_cons_of_pos (by simp[e])]
   by_cases e3:p.1=q
   ·subst e3
    rw[if_neg e]
    simp[getD]
   ·simp only[getD,List.find?_cons,e3,decide_false]at ih |-
    exact ih
theorem zpr {k:Dig} {L:DbL} (h:OKD L):OKD (gP k L):=by
 refine⟨?_,fun p hp=>h.2 p (List.mem_filter.1 hp).1⟩
 rw[X9];exact List.Pairwise.filter _ h.1
theorem zfy (l:List Dig) (k:Dig):yB (l.filter fun q=>decide (q≠k))=(yB l).filter fun q=>decide (q≠k):=by
 refine(zd6 (l:=l.filter fun q=>decide (q≠k)) ⟨(y9 l).1.filter _,?_⟩).symm
 exact List.Pairwise.filter _ (y9 l).2
theorem dO {k:Dig} {f g:Dig->List qD}:∀ {ks:List Dig},(∀q∈ks,∀t∈f q,t.key=q)->(∀q,q≠k->g q=f q)->(ks.filter fun q=>decide (q≠k)).flatMap g=(ks.flatMap f).filter fun x=>decide (x.key≠k)
 | [],_,_=>rfl
 | q::ks,h,hg=>by
  have ih:=dO (k:=k) (fun q' hq=>h q' (List.mem_cons_of_mem _ hq)) hg
  rw[List.flatMap_cons,List.filter_append,<-ih]
  by_cases e:q=k
  ·rw[List.filter_cons_of_neg (by simp[e])]
   have:(f q).filter (fun x=>decide (x.key≠k))=[]:=List.filter_eq_nil_iff.2 fun t ht=>by simp[h q (by simp) t ht,e]
   rw[this,List.nil_append]
  ·rw[List.filter_cons_of_pos (by simp[e]),List.flatMap_cons,hg q e]
   congr 1
   exact(List.filter_eq_self.2 fun t ht=>by simp[h q (by simp) t ht,e]).symm
theorem zjX {L:DbL} (h:OKD L) (k:Dig):YB (w9 L) k=w9 (gP k L):=by
 unfold YB w9
 rw[X9,zfy,dO (f:=getD L) (fun q hq=>(YP h (srtK_mem.1 hq)).2)]
 intro q hq
 rw[zgL,if_neg hq]
noncomputable def zfJ (mo:Nat) (l:List qD) (t:qD):List qD :=
 (YB l t.key).takeWhile (fun x=>!ltL t.key x.key)++yG mo t (DU l t.key)++(YB l t.key).dropWhile (fun x=>!ltL t.key x.key)
theorem zlf {L:DbL} (h:(L.map Prod.fst).Nodup) (k:Dig) (v:List qD) :
  ∃A B,yB ((Q5 k v L).map Prod.fst)=A++k::B/\yB ((gP k L).map Prod.fst)=A++B/\(∀q∈A,ltL k q=false)/\∀q∈B,ltL k q=true:=by
 have hn:=d8 (k:=k) (v:=v) h
 have hs:=gH hn
 have ho:=(y9 ((Q5 k v L).map Prod.fst)).2
 obtain⟨A,B,hAB⟩:=List.append_of_mem (srtK_mem.2 (cC.2 (.inl rfl)):k∈yB ((Q5 k v L).map Prod.fst))
 rw[hAB]at hs ho
 rw[List.pairwise_append,List.pairwise_cons]at ho
 rw[List.nodup_append,List.nodup_cons]at hs
 refine⟨A,B,hAB,?_,fun q hq=>ho.2.2 q hq k (by simp),fun q hq=>?_⟩
 ·refine(zd6 (l:=(gP k L).map Prod.fst) ⟨?_,?_⟩).symm
  ·rw[List.perm_ext_iff_of_nodup]
   ·intro q
    have hm:q∈yB ((Q5 k v L).map Prod.fst)<->q=k\/q∈L.map Prod.fst:=srtK_mem.trans cC
    rw[hAB]at hm
    rw[X9,List.mem_filter,List.mem_append]
    simp only[List.mem_append,List.mem_cons]at hm
    constructor
    ·intro hq
     have hqk:q≠k:=by
      rintro rfl
      rcases hq with hq|hq
      ·exact hs.2.2 q hq q (by simp) rfl
      ·exact hs.2.1.1 hq
     have:=hm.1 (by rcases hq with hq|hq;exact .inl hq;exact .inr (.inr hq))
     exact⟨this.elim (fun e=>absurd e hqk) id,by simpa using hqk⟩
    ·rintro⟨h1,h2⟩
     have h2:q≠k:=by simpa using h2
     rcases hm.2 (.inr h1)with h|h|h
     ·exact .inl h
     ·exact absurd h h2
     ·exact .inr h
   ·rw[List.nodup_append]
    exact⟨hs.1,hs.2.1.2,fun a ha b hb=>hs.2.2 a ha b (List.mem_cons_of_mem _ hb)⟩
   ·rw[X9];exact List.Pairwise.filter _ h
  ·rw[List.pairwise_append]
   exact⟨ho.1,ho.2.1.2,fun a ha b hb=>ho.2.2 a ha b (List.mem_cons_of_mem _ hb)⟩
 ·have h1:=ho.2.1.1 q hq
  by_cases e:ltL k q=false
  ·have:=gX e h1
   exact absurd hq (this▸hs.2.1.1)
  ·simpa using e
theorem zd2 {k:Dig} {v:List qD} {L:DbL} (q:Dig):getD (Q5 k v L) q=if q=k then v else getD L q:=UI k q v L
theorem znR {mo:Nat} {L:DbL} (h:OKD L) (t:qD):zfJ mo (w9 L) t=w9 (Q5 t.key (yG mo t (getD L t.key)) L):=by
 unfold zfJ
 rw[zjX h,zee h]
 obtain⟨A,B,h1,h2,h3,h4⟩:=zlf h.1 t.key (yG mo t (getD L t.key))
 have hd:=zpr (k:=t.key) h
 unfold w9
 rw[h1,h2,List.flatMap_append,List.flatMap_append,List.flatMap_cons,zd2,if_pos rfl]
 have hmem:∀q∈A++B,q∈(gP t.key L).map Prod.fst:=fun q hq=>srtK_mem.1 (h2▸hq)
 have hf:∀C:List Dig,(∀q∈C,q∈A++B)->C.flatMap (getD (Q5 t.key (yG mo t (getD L t.key)) L))=C.flatMap (getD (gP t.key L)):=fun C hC=>by
  induction C with
  | nil=>rfl
  | cons q C ih =>
   rw[List.flatMap_cons,List.flatMap_cons,ih fun q' hq=>hC q' (List.mem_cons_of_mem _ hq),zd2,zgL]
   have:q≠t.key:=by
    have:=hmem q (hC q (by simp))
    rw[X9,List.mem_filter]at this
    simpa using this.2
   rw[if_neg this,if_neg this]
 rw[hf A fun q hq=>List.mem_append_left _ hq,hf B fun q hq=>List.mem_append_right _ hq]
 have ha:∀x∈A.flatMap (getD (gP t.key L)),(!ltL t.key x.key)=true:=fun x hx=>by
  obtain⟨q,hq,hx⟩:=List.mem_flatMap.1 hx
  rw[(YP hd (hmem q (List.mem_append_left _ hq))).2 x hx,h3 q hq];rfl
 have hb:∀x∈B.flatMap (getD (gP t.key L)),(!ltL t.key x.key)=false:=fun x hx=>by
  obtain⟨q,hq,hx⟩:=List.mem_flatMap.1 hx
  rw[(YP hd (hmem q (List.mem_append_right _ hq))).2 x hx,h4 q hq];rfl
 obtain⟨C,hC⟩:∃C,C=A.flatMap (getD (gP t.key L)):=⟨_,rfl⟩
 obtain⟨D,hD⟩:∃D,D=B.flatMap (getD (gP t.key L)):=⟨_,rfl⟩
 rw[<-hC]at ha |-
 rw[<-hD]at hb |-
 have ht:D.takeWhile (fun x=>!ltL t.key x.key)=[]:=by
  cases D with
  | nil=>rfl
  | cons x D=>rw[List.takeWhile_cons_of_neg (by simp[hb x (by simp)])]
 have hdr:D.dropWhile (fun x=>!ltL t.key x.key)=D:=by
  cases D with
  | nil=>rfl
  | cons x D=>rw[List.dropWhile_cons_of_neg (by simp[hb x (by simp)])]
 rw[List.takeWhile_append_of_pos ha,List.dropWhile_append_of_pos ha,ht,hdr,List.append_nil,List.append_assoc]
def uH (p:Option Dig) (l:List qD):Option Dig:=(l.getLast?.map (·.key)).or p
def Z5 (p:Option Dig):List qD->List Dig
 | []=>[]
 | x::r=>if p=some x.key then Z5 p r else x.key::Z5 (some x.key) r
theorem gQ (x:qD):∀(l:List qD) (p:Option Dig),Z5 p (l++[x])=Z5 p l++if uH p l=some x.key then [] else [x.key]
 | [],p=>by
  have h:uH p ([]:List qD)=p:=by simp[uH]
  by_cases e:p=some x.key<;>simp[Z5,uH,e]
 | y::r,p=>by
  have hl:uH p (y::r)=uH (some y.key) r:=by
   cases r with
   | nil=>simp[uH]
   | cons z r=>simp[uH,List.getLast?_cons_cons,List.getLast?_eq_some_getLast]
  rw[List.cons_append,Z5,Z5,hl]
  by_cases e:p=some y.key
  ·rw[if_pos e,if_pos e,gQ x r p,e]
  ·rw[if_neg e,if_neg e,gQ x r (some y.key),List.cons_append]
theorem dH {k:Dig} {r:List qD}:∀ {b:List qD},(∀t∈b,t.key=k)->Z5 (some k) (b++r)=Z5 (some k) r
 | [],_=>rfl
 | x::b,h=>by
  rw[List.cons_append,Z5,if_pos (by rw[h x (by simp)])]
  exact dH fun t ht=>h t (List.mem_cons_of_mem _ ht)
theorem zas {f:Dig->List qD}:∀ {ks:List Dig} {p:Option Dig},ks.Nodup->(∀q∈ks,f q≠[]/\∀t∈f q,t.key=q)->(∀q∈ks,p≠some q)->Z5 p (ks.flatMap f)=ks
 | [],p,_,_,_=>rfl
 | q::ks,p,hn,h,hp=>by
  rw[List.nodup_cons]at hn
  obtain⟨h1,h2⟩:=h q (by simp)
  have ih:=zas (f:=f) (p:=some q) hn.2 (fun q' hq=>h q' (List.mem_cons_of_mem _ hq)) fun q' hq e=>hn.1 (by cases e;exact hq)
  rw[List.flatMap_cons]
  obtain⟨x,b,hb⟩:=List.exists_cons_of_ne_nil h1
  rw[hb]at h2 |-
  have hx:=h2 x (by simp)
  rw[List.cons_append,Z5,hx,if_neg (hp q (by simp)),dH fun t ht=>h2 t (List.mem_cons_of_mem _ ht),ih]
theorem zk3 {L:DbL} (h:OKD L):Z5 none (w9 L)=yB (L.map Prod.fst) :=
 zas (gH h.1) (fun q hq=>YP h (srtK_mem.1 hq)) fun q _=>by simp
theorem zoF {mo:Nat} (hm:1<=mo) (t:qD) (ts:List qD):yG mo t ts≠[]:=by
 obtain⟨q,rfl⟩:∃q,mo=q+1:=⟨mo-1,by omega⟩
 simp[yG]
theorem zoL {mo:Nat} (hm:1<=mo) {L:DbL} (h:OKD L) (t:qD):OKD (Q5 t.key (yG mo t (getD L t.key)) L):=by
 refine⟨d8 h.1,fun p hp=>?_⟩
 rcases zac hp with rfl|hp
 ·refine⟨zoF hm _ _,fun x hx=>?_⟩
  have hx:=List.mem_of_mem_take hx
  rcases List.mem_cons.1 hx with rfl|hx
  ·rfl
  ·rw[zcK]at hx
   obtain⟨hx,_⟩:=List.mem_filter.1 hx
   by_cases hk:t.key∈L.map Prod.fst
   ·exact(YP h hk).2 x hx
   ·rw[zdZ hk]at hx;simp at hx
 ·exact h.2 p hp
theorem ziY {mo:Nat} (hm:1<=mo) {L:DbL} (h:OKD L) (t:qD):OKD (kU mo L t):=by
 unfold kU
 split
 ·exact zoL hm h t
 ·exact h
theorem ziu:OKD []:=⟨by simp,fun p hp=>by simp at hp⟩
theorem zpk {a b:List UInt8} {k:Nat} (h:k<a.length) (h':k<b.length) (he:a[k]=b[k]):Lib.compareBytes (a.drop k) (b.drop k)=Lib.compareBytes (a.drop (k+1)) (b.drop (k+1)):=by
 rw[List.drop_eq_getElem_cons h,List.drop_eq_getElem_cons h',he]
 simp[Lib.compareBytes,UInt8.lt_irrefl]
theorem zpZ {a b:List UInt8} {k:Nat} (h:k<a.length) (h':k<b.length) (he:¬a[k]=b[k]):(Lib.compareBytes (a.drop k) (b.drop k)<0)=(a[k].toNat<b[k].toNat):=by
 rw[List.drop_eq_getElem_cons h,List.drop_eq_getElem_cons h']
 have e:¬a[k].toNat=b[k].toNat:=fun e=>he (UInt8.toNat_inj.1 e)
 rw[Lib.compareBytes]
 by_cases hl:a[k]<b[k]
 ·have:=UInt8.lt_iff_toNat_lt.1 hl
  simp[hl,this]
 ·have h2:b[k]<a[k]:=by
   rcases P1 a[k] b[k]with h|h|h
   ·exact absurd h hl
   ·exact absurd h he
   ·exact h
  have:=UInt8.lt_iff_toNat_lt.1 h2
  have h3:¬a[k].toNat<b[k].toNat:=by omega
  simp[hl,h2,h3]
theorem zgr (d:Dig) (k:Nat) (h:k<d.length):(d.map fun b=>AV.i .u8 b.toNat)[k]?=some (.i .u8 d[k].toNat):=by simp[List.getElem?_eq_getElem h]
theorem zeD (a b:Dig) (ha:a.length=32) (hb:b.length=32):PC Tryz.prog 110 [.av (q8 Tryz.prog 53) (qK a),.av (q8 Tryz.prog 53) (qK b)] (.av .bool (.b (ltL a b))):=by
 refine zow Tryz.func110 cf0 fun imm0 w0=>?_
 simp (disch:=omega) [zz]
 refine AT.loop' (α:=Nat) (fun k=>St.of [(2,.loc 2 []),(3,.loc 3 []),(5,.av (.int .i64) (.i .i64 k))] [(2,(q8 Tryz.prog 53,qK a)),(3,(q8 Tryz.prog 53,qK b))] (fun _=>0) [])
  (fun k=>k<=32/\Lib.compareBytes a b=Lib.compareBytes (a.drop k) (b.drop k)) (fun k=>32-k) 0 ?_ ?_ ?_
 ·apply Le.of<;>simp[k8,z1,jF]<;>try omega
 ·simp
 rintro k ⟨hk,hcb⟩ KL hN hE
 refine zrd cf0 ?_
 by_cases hlt:k<32
 ·have hlt':(k:Int)<32:=by omega
  have ga:=zgr a k (by omega)
  have gb:=zgr b k (by omega)
  by_cases he:a[k]=b[k]
  ·have hn:=zpk (a:=a) (b:=b) (k:=k) (by omega) (by omega) he
   rw[he]at ga
   simp (disch:=omega) [zz,hlt',qK,ga,gb]
   refine hN _ (k+1) ?_ ⟨by omega,by rw[hcb,hn]⟩ (by omega)
   apply Le.of<;>simp[k8,z1,qK]<;>try omega
  ·have e:¬a[k].toNat=b[k].toNat:=fun e=>he (UInt8.toNat_inj.1 e)
   have e':¬(a[k].toNat:Int)=b[k].toNat:=by omega
   have hz:ltL a b=decide ((a[k].toNat:Int)<b[k].toNat):=by
    rw[ltL,hcb]
    simp only[zpZ (by omega:k<a.length) (by omega:k<b.length) he]
    simp
   simp (disch:=omega) [zz,hlt',qK,ga,gb,e,e']
   refine hE _ _ (by simp) ?_
   simp (disch:=omega) [zz,Tryz.f110,hz]
 ·have hlt':¬(k:Int)<32:=by omega
  have hz:ltL a b=false:=by
   rw[ltL,hcb,List.drop_of_length_le (by omega),List.drop_of_length_le (by omega)];rfl
  simp (disch:=omega) [zz,hlt']
  refine hE _ _ (by simp) ?_
  simp (disch:=omega) [zz,Tryz.f110,hz]
theorem zX (l:List qD):qU l=.sl .no (trs l):=rfl
theorem zhL (l:List qD) (k:Dig) (hl:l.length<=100000000):PC Tryz.prog 34 [.av (.slice 56) (qU l),.av (q8 Tryz.prog 53) (qK k)] (.av (.slice 56) (qU (DU l k))):=by
 refine zow Tryz.func34 cf0 fun imm0 w0=>?_
 simp (disch:=omega) [zz,zX]
 obtain⟨F,hF⟩:∃F:Nat->List qD,F=fun n=>DU (l.take n) k:=⟨_,rfl⟩
 have hF0:F 0=[]:=by rw[hF];rfl
 have hFe:F l.length=DU l k:=by rw[hF];simp only;rw[List.take_length]
 have hFs:∀n (h:n<l.length),F (n+1)=F n++if l[n].key=k then [l[n]] else []:=fun n h=>by
  rw[hF];simp only[DU]
  rw[List.take_succ_eq_append_getElem h,List.filter_append]
  by_cases e:l[n].key=k<;>simp[e]
 have hFl:∀n,(F n).length<=100000000:=fun n=>by
  rw[hF];simp only[DU]
  have:=List.length_filter_le (fun x:qD=>decide (x.key=k)) (l.take n)
  rw[List.length_take]at this
  omega
 refine AT.loop' (α:=Nat) (fun q=>St.of [(0,.av (.slice 56) (.sl .no (trs l))),(3,.loc 3 []),(5,.av (.slice 56) (.sl (tkO 26 (F q).length) (trs (F q)))),(6,.av (.int .i64) (.i .i64 q))] [(3,(q8 Tryz.prog 53,qK k))] (fun j=>if j=26 then(F q).length else 0) [])
  (fun q=>q<=l.length) (fun q=>l.length-q) 0 ?_ ?_ ?_
 ·apply Le.of<;>simp[k8,z1,hF0,tkO,trs]<;>try omega
 ·simp
 rintro q hq KL hN hE
 refine zrd cf0 ?_
 by_cases hlt:q<l.length
 ·have hlt':(q:Int)<l.length:=by omega
  have hg:=uB l q hlt
  have hs:=hFs q hlt
  have hfl:=hFl q
  obtain⟨x,hx⟩:∃x,x=l[q]:=⟨_,rfl⟩
  rw[<-hx]at hg hs
  by_cases he:x.key=k
  ·have hs2:F (q+1)=F q++[x]:=by rw[hs,if_pos (by simp[he])]
   have htl:∀y:List qD,(trs y).length=y.length:=fun y=>by simp[trs]
   rcases Nat.eq_zero_or_pos (F q).length with h0|h0
   ·have hw:F q=[]:=List.eq_nil_of_length_eq_zero h0
    have htr:trs []=[]:=rfl
    simp (disch:=omega) [zz,hlt',hg,q5,qK,he,j9,hw,tkO,qQ,htr]
    (repeat with_reducible refine om ?_)
    refine hN _ (q+1) ?_ (by omega) (by omega)
    apply Le.of<;>simp[k8,z1,q5,qK,hs2,hw,trs,tkO,he]<;>try omega
    all_goals (intro i;by_cases hi:i=26<;>simp[hi])
   ·have htp:=zdW 26 h0
    simp (disch:=omega) [zz,hlt',hg,q5,qK,he,j9,htp,qQ,htl]
    (repeat with_reducible refine om ?_)
    refine hN _ (q+1) ?_ (by omega) (by omega)
    apply Le.of<;>simp[k8,z1,q5,qK,hs2,yM,KI,tkO,he]<;>try omega
    all_goals (intro i;by_cases hi:i=26<;>simp[hi])
  ·have hs2:F (q+1)=F q:=by rw[hs,if_neg (by simp[he]),List.append_nil]
   simp (disch:=omega) [zz,hlt',hg,q5,qK,he,j9]
   refine hN _ (q+1) ?_ (by omega) (by omega)
   apply Le.of<;>simp[k8,z1,q5,qK,hs2]<;>try omega
 ·have hlt':¬(q:Int)<l.length:=by omega
  have hqn:q=l.length:=by omega
  subst hqn
  rw[hFe]
  simp (disch:=omega) [zz,hlt']
  refine hE _ _ (by simp) ?_
  simp (disch:=omega) [zz,Tryz.f34,XT,zX]
theorem zle (l:List qD) (k:Dig) (hl:l.length<=100000000):PC Tryz.prog 113 [.av (.slice 56) (qU l),.av (q8 Tryz.prog 53) (qK k)] (.av (.slice 56) (qU (YB l k))):=by
 refine zow Tryz.func113 cf0 fun imm0 w0=>?_
 simp (disch:=omega) [zz,zX]
 obtain⟨F,hF⟩:∃F:Nat->List qD,F=fun n=>YB (l.take n) k:=⟨_,rfl⟩
 have hF0:F 0=[]:=by rw[hF];rfl
 have hFe:F l.length=YB l k:=by rw[hF];simp only;rw[List.take_length]
 have hFs:∀n (h:n<l.length),F (n+1)=F n++if l[n].key≠k then [l[n]] else []:=fun n h=>by
  rw[hF];simp only[YB]
  rw[List.take_succ_eq_append_getElem h,List.filter_append]
  by_cases e:l[n].key=k<;>simp[e]
 have hFl:∀n,(F n).length<=100000000:=fun n=>by
  rw[hF];simp only[YB]
  have:=List.length_filter_le (fun x:qD=>decide (x.key≠k)) (l.take n)
  rw[List.length_take]at this
  omega
 refine AT.loop' (α:=Nat) (fun q=>St.of [(0,.av (.slice 56) (.sl .no (trs l))),(3,.loc 3 []),(5,.av (.slice 56) (.sl (tkO 26 (F q).length) (trs (F q)))),(6,.av (.int .i64) (.i .i64 q))] [(3,(q8 Tryz.prog 53,qK k))] (fun j=>if j=26 then(F q).length else 0) [])
  (fun q=>q<=l.length) (fun q=>l.length-q) 0 ?_ ?_ ?_
 ·apply Le.of<;>simp[k8,z1,hF0,tkO,trs]<;>try omega
 ·simp
 rintro q hq KL hN hE
 refine zrd cf0 ?_
 by_cases hlt:q<l.length
 ·have hlt':(q:Int)<l.length:=by omega
  have hg:=uB l q hlt
  have hs:=hFs q hlt
  have hfl:=hFl q
  obtain⟨x,hx⟩:∃x,x=l[q]:=⟨_,rfl⟩
  rw[<-hx]at hg hs
  by_cases he:x.key=k
  ·have hs2:F (q+1)=F q:=by rw[hs,if_neg (by simp[he]),List.append_nil]
   simp (disch:=omega) [zz,hlt',hg,q5,qK,he,j9]
   refine hN _ (q+1) ?_ (by omega) (by omega)
   apply Le.of<;>simp[k8,z1,q5,qK,hs2]<;>try omega
  ·have hs2:F (q+1)=F q++[x]:=by rw[hs,if_pos (by simp[he])]
   have htl:∀y:List qD,(trs y).length=y.length:=fun y=>by simp[trs]
   rcases Nat.eq_zero_or_pos (F q).length with h0|h0
   ·have hw:F q=[]:=List.eq_nil_of_length_eq_zero h0
    have htr:trs []=[]:=rfl
    simp (disch:=omega) [zz,hlt',hg,q5,qK,he,j9,hw,tkO,qQ,htr]
    (repeat with_reducible refine om ?_)
    refine hN _ (q+1) ?_ (by omega) (by omega)
    apply Le.of<;>simp[k8,z1,q5,qK,hs2,hw,trs,tkO,he]<;>try omega
    all_goals (intro i;by_cases hi:i=26<;>simp[hi])
   ·have htp:=zdW 26 h0
    simp (disch:=omega) [zz,hlt',hg,q5,qK,he,j9,htp,qQ,htl]
    (repeat with_reducible refine om ?_)
    refine hN _ (q+1) ?_ (by omega) (by omega)
    apply Le.of<;>simp[k8,z1,q5,qK,hs2,yM,KI,tkO,he]<;>try omega
    all_goals (intro i;by_cases hi:i=26<;>simp[hi])
 ·have hlt':¬(q:Int)<l.length:=by omega
  have hqn:q=l.length:=by omega
  subst hqn
  rw[hFe]
  simp (disch:=omega) [zz,hlt']
  refine hE _ _ (by simp) ?_
  simp (disch:=omega) [zz,Tryz.f113,XT,zX]
theorem zpo (t:qD) (l:List qD) (x:qD):kp t (l++[x])=kp t l++if x=t then [] else [x]:=by
 rw[zcK,zcK,List.filter_append]
 by_cases e:x=t<;>simp[e]
noncomputable def zdt (mo:Nat) (t:qD) (l:List qD) (j:Nat):List qD:=(t::kp t (l.take j)).take mo
theorem zjU {mo:Nat} {t:qD} {l:List qD} {j:Nat} (h:j<l.length):zdt mo t l (j+1)=zdt mo t l j++if (zdt mo t l j).length<mo/\l[j]≠t then [l[j]] else []:=by
 unfold zdt
 rw[List.take_succ_eq_append_getElem h,zpo,List.length_take]
 by_cases e:l[j]=t
 ·simp[e]
 ·rw[if_neg e,<-List.cons_append]
  obtain⟨X,hX⟩:∃X,X=t::kp t (l.take j):=⟨_,rfl⟩
  rw[<-hX]
  by_cases hl:X.length<mo
  ·rw[if_pos ⟨by omega,e⟩,List.take_of_length_le (by simp;omega),List.take_of_length_le (by omega)]
  ·rw[if_neg (fun h=>hl (by omega)),List.append_nil,List.take_append_of_le_length (by omega)]
theorem znF {mo:Nat} {t:qD} {l:List qD} {j:Nat}:(zdt mo t l j).length<=mo:=by unfold zdt;rw[List.length_take];omega
def uQ (k:Dig) (row:List qD):Bool->List qD->List qD
 | true,r=>r
 | false,r=>r.takeWhile (fun x=>!ltL k x.key)++row++r.dropWhile (fun x=>!ltL k x.key)
def tkV (q:Nat) (ver:Nat->Nat):Ab.Tok:=if q=0 then .full else .own 77 (ver 77)
theorem ziD {k:Dig} {row r:List qD} {x:qD} (h:ltL k x.key=false):uQ k row false (x::r)=x::uQ k row false r:=by
 simp[uQ,h]
theorem zfr {k:Dig} {row r:List qD} {x:qD} (h:ltL k x.key=true):uQ k row false (x::r)=row++x::r:=by
 simp[uQ,h]
theorem ZF (y:List qD):(trs y).length=y.length:=by simp[trs]
theorem zjs (l:List qD) (t:qD) (mo:Nat) (hm:1<=mo) (hm8:mo<=8) (hl:l.length<=12000000) (hk:t.key.length=32) (hlk:∀x∈l,x.key.length=32) (ht:uN t) (hlo:∀x∈l,uN x) :
  PC Tryz.prog 53 [.av (.slice 56) (qU l),.av (q8 Tryz.prog 56) (q5 t),.av (.int .i64) (.i .i64 mo)] (.av (.slice 56) (qU (zfJ mo l t))):=by
 refine zow Tryz.func53 cf0 fun imm0 w0=>?_
 simp (disch:=omega) [zz,zX,q5]
 refine YE (zhL l t.key (by omega)) rfl rfl (by simp) (by simp[q9,TV.er,zX]) ?_
 obtain⟨old,hold⟩:∃old,old=DU l t.key:=⟨_,rfl⟩
 have hol:old.length<=12000000:=by
  rw[hold];unfold DU
  exact Nat.le_trans (List.length_filter_le _ _) hl
 have hom:∀x∈old,x∈l:=fun x hx=>by rw[hold]at hx;exact(List.mem_filter.1 hx).1
 rw[<-hold]
 obtain⟨R,hR⟩:∃R:Nat->List qD,R=zdt mo t old:=⟨_,rfl⟩
 have hR0:R 0=[t]:=by
  rw[hR];obtain⟨q,rfl⟩:∃q,mo=q+1:=⟨mo-1,by omega⟩
  simp[zdt,zcK]
 have hRe:R old.length=yG mo t (DU l t.key):=by rw[hR];unfold zdt yG;rw[List.take_length,hold]
 have hRs:∀j (h:j<old.length),R (j+1)=R j++if (R j).length<mo/\old[j]≠t then [old[j]] else []:=fun j h=>by rw[hR];exact zjU h
 have hRl:∀j,(R j).length<=mo:=fun j=>by rw[hR];exact znF
 simp (disch:=omega) [zz,zX]
 refine AT.loopV (α:=Nat × Nat) (fun x ver=>St.of [(0,.av (.slice 56) (.sl .no (trs l))),(2,.av (.int .i64) (.i .i64 mo)),(4,.loc 4 []),(7,.av (.slice 56) (.sl (if x.2=0 then .full else .own 45 (ver 45)) (trs (R x.1)))),(8,.av (.slice 56) (.sl .no (trs old))),(9,.av (.int .i64) (.i .i64 x.1))] [(4,(TrT,q5 t))] ver [])
  (fun x=>x.1<=old.length) (fun x=>old.length-x.1) (0,0) ?_ ?_ ?_
 ·apply Le.of<;>simp[k8,z1,hR0,trs,q5]<;>try omega
 ·simp
 rintro⟨j,q⟩ ver hj KL hN hE
 simp only at hj hN
 refine zrd cf0 ?_
 by_cases hlt:j<old.length
 ·have hlt':(j:Int)<old.length:=by omega
  have hg:=uB old j hlt
  have hs:=hRs j hlt
  have hrl:=hRl j
  have hxo:=hlo _ (hom _ (List.getElem_mem hlt))
  obtain⟨x,hx⟩:∃x,x=old[j]:=⟨_,rfl⟩
  rw[<-hx]at hg hs hxo
  by_cases hfull:(R j).length<mo
  ·have hfull':((R j).length:Int)<mo:=by omega
   simp (disch:=omega) [zz,hlt',hfull',hg,ZF]
   (repeat with_reducible refine om ?_)
   refine XF (zgg x t hxo ht) rfl rfl (by simp) (by simp[q9,TV.er]) ?_
   by_cases hsm:x=t
   ·have hs2:R (j+1)=R j:=by rw[hs,if_neg (fun h=>h.2 hsm),List.append_nil]
    have hsv:wT x t=true:=WM.2 hsm
    simp (disch:=omega) [zz,hsv]
    (repeat with_reducible refine om ?_)
    refine hN _ (j+1,q) ?_ (by simp only;omega) (by simp only;omega)
    apply Le.of<;>simp[k8,z1,hs2]<;>try omega
   ·have hs2:R (j+1)=R j++[x]:=by rw[hs,if_pos ⟨hfull,hsm⟩]
    have hsv:wT x t=false:=by
     rw[Bool.eq_false_iff];exact fun h=>hsm (WM.1 h)
    by_cases hq:q=0
    ·simp (disch:=omega) [zz,hsv,hlt',hg,hq,ZF,qQ]
     (repeat with_reducible refine om ?_)
     refine hN _ (j+1,1) ?_ (by simp only;omega) (by simp only;omega)
     apply Le.of<;>simp[k8,z1,hs2,yM,KI]<;>try omega
    ·simp (disch:=omega) [zz,hsv,hlt',hg,hq,ZF,qQ]
     (repeat with_reducible refine om ?_)
     refine hN _ (j+1,1) ?_ (by simp only;omega) (by simp only;omega)
     apply Le.of<;>simp[k8,z1,hs2,yM,KI]<;>try omega
  ·have hfull':¬((R j).length:Int)<mo:=by omega
   have hs2:R (j+1)=R j:=by rw[hs,if_neg (fun h=>hfull h.1),List.append_nil]
   simp (disch:=omega) [zz,hlt',hfull',hg,ZF]
   (repeat with_reducible refine om ?_)
   refine hN _ (j+1,q) ?_ (by simp only;omega) (by simp only;omega)
   apply Le.of<;>simp[k8,z1,hs2]<;>try omega
 have hlt':¬(j:Int)<old.length:=by omega
 have hjn:j=old.length:=by omega
 subst hjn
 have hrl:=hRl old.length
 rw[hRe]at hrl
 rw[hRe]
 simp (disch:=omega) [zz,hlt']
 refine hE _ _ (by simp) ?_
 clear hN hE
 simp (disch:=omega) [zz,q5]
 refine YE (zle l t.key (by omega)) rfl rfl (by simp) (by simp[q9,TV.er,zX]) ?_
 obtain⟨row,hrow⟩:∃row,row=yG mo t (DU l t.key):=⟨_,rfl⟩
 obtain⟨rest,hrest⟩:∃rest,rest=YB l t.key:=⟨_,rfl⟩
 have hrel:rest.length<=12000000:=by
  rw[hrest];unfold YB
  exact Nat.le_trans (List.length_filter_le _ _) hl
 have hrem:∀x∈rest,x.key.length=32:=fun x hx=>by rw[hrest]at hx;exact hlk x (List.mem_filter.1 hx).1
 have hfin:zfJ mo l t=uQ t.key row false rest:=by rw[hrow,hrest];rfl
 rw[hfin,<-hrow,<-hrest]
 rw[<-hrow]at hrl
 have hfl:(uQ t.key row false rest).length=rest.length+row.length:=by
  have:=congrArg List.length (List.takeWhile_append_dropWhile (p:=fun x:qD=>!ltL t.key x.key) (l:=rest))
  simp only[uQ,List.length_append]at this |-
  omega
 clear hRs hRl hRe hR0 hR hfin hrow hrest hold hom
 simp (disch:=omega) [zz,zX]
 refine AT.loopV (α:=Nat × List qD × Bool) (fun x ver=>St.of [(4,.loc 4 []),(7,.av (.slice 56) (.sl .no (trs row))),(10,.av (.slice 56) (.sl (tkV x.1 ver) (trs x.2.1))),(11,.av (.slice 56) (.sl .no (trs rest))),(12,.av .bool (.b x.2.2)),(13,.av (.int .i64) (.i .i64 x.1))] [(4,(TrT,q5 t))] ver [])
  (fun x=>x.1<=rest.length/\x.2.1++uQ t.key row x.2.2 (rest.drop x.1)=uQ t.key row false rest) (fun x=>rest.length-x.1) (0,[],false) ?_ ?_ ?_
 ·apply Le.of<;>simp[k8,z1,tkV,trs,q5]<;>try omega
 ·simp
 rintro⟨q,out,d⟩ ver ⟨hq,hinv⟩ KL hN hE
 simp only at hq hinv hN
 have hol2:out.length<=rest.length+row.length:=by
  have:=congrArg List.length hinv
  rw[List.length_append,hfl]at this;omega
 refine zrd cf0 ?_
 by_cases hlt:q<rest.length
 ·have hlt':(q:Int)<rest.length:=by omega
  have hg:=uB rest q hlt
  have hdr:=List.drop_eq_getElem_cons hlt
  have hxk:=hrem _ (List.getElem_mem hlt)
  obtain⟨x,hx⟩:∃x,x=rest[q]:=⟨_,rfl⟩
  rw[<-hx]at hg hdr hxk
  rw[hdr]at hinv
  cases d
  ·by_cases hle:ltL t.key x.key=true
   ·simp (disch:=omega) [zz,hlt',hg,q5]
    (repeat with_reducible refine om ?_)
    refine XF (zeD t.key x.key hk hxk) rfl rfl (by simp) (by simp[q9,TV.er]) ?_
    by_cases hq0:q=0
    ·subst hq0
     simp (disch:=omega) [zz,hle,hlt',hg,tkV,qQ,ZF]
     (repeat with_reducible refine om ?_)
     refine hN _ (1,out++row++[x],true) ?_ ⟨by simp only;omega,by simp only;rw[<-hinv,zfr hle];simp[uQ]⟩ (by simp only;omega)
     apply Le.of<;>simp[k8,z1,tkV,yM,KI,q5]<;>try omega
    ·simp (disch:=omega) [zz,hle,hlt',hg,tkV,hq0,qQ,ZF]
     (repeat with_reducible refine om ?_)
     refine hN _ (q+1,out++row++[x],true) ?_ ⟨by simp only;omega,by simp only;rw[<-hinv,zfr hle];simp[uQ]⟩ (by simp only;omega)
     apply Le.of<;>simp[k8,z1,tkV,yM,KI,q5]<;>try omega
   ·have hle:ltL t.key x.key=false:=by simpa using hle
    simp (disch:=omega) [zz,hlt',hg,q5]
    (repeat with_reducible refine om ?_)
    refine XF (zeD t.key x.key hk hxk) rfl rfl (by simp) (by simp[q9,TV.er]) ?_
    by_cases hq0:q=0
    ·subst hq0
     simp (disch:=omega) [zz,hle,hlt',hg,tkV,qQ,ZF]
     (repeat with_reducible refine om ?_)
     refine hN _ (1,out++[x],false) ?_ ⟨by simp only;omega,by simp only;rw[<-hinv,ziD hle];simp⟩ (by simp only;omega)
     apply Le.of<;>simp[k8,z1,tkV,yM,KI,q5]<;>try omega
    ·simp (disch:=omega) [zz,hle,hlt',hg,tkV,hq0,qQ,ZF]
     (repeat with_reducible refine om ?_)
     refine hN _ (q+1,out++[x],false) ?_ ⟨by simp only;omega,by simp only;rw[<-hinv,ziD hle];simp⟩ (by simp only;omega)
     apply Le.of<;>simp[k8,z1,tkV,yM,KI,q5]<;>try omega
  ·by_cases hq0:q=0
   ·subst hq0
    have hp1:0<rest.length:=by omega
    have hp2:(0:Int)<rest.length:=by omega
    have hp3:¬rest=[]:=fun e=>by rw[e]at hp1;simp at hp1
    simp (disch:=omega) [zz,hlt',hp1,hp2,hp3,hg,tkV,qQ,ZF,q5]
    (repeat with_reducible refine om ?_)
    refine hN _ (1,out++[x],true) ?_ ⟨by simp only;omega,by simp only;rw[<-hinv];simp[uQ]⟩ (by simp only;omega)
    apply Le.of<;>simp[k8,z1,tkV,yM,KI,q5]<;>try omega
   ·simp (disch:=omega) [zz,hlt',hg,tkV,hq0,qQ,ZF,q5]
    (repeat with_reducible refine om ?_)
    refine hN _ (q+1,out++[x],true) ?_ ⟨by simp only;omega,by simp only;rw[<-hinv];simp[uQ]⟩ (by simp only;omega)
    apply Le.of<;>simp[k8,z1,tkV,yM,KI,q5]<;>try omega
 have hlt':¬(q:Int)<rest.length:=by omega
 rw[List.drop_of_length_le (by omega)]at hinv
 simp (disch:=omega) [zz,hlt']
 refine hE _ _ (by simp) ?_
 rw[<-hinv]
 cases d
 ·have hf:out++uQ t.key row false []=out++row:=by simp[uQ]
  rw[hf]
  by_cases hq0:q=0
  ·simp (disch:=omega) [zz,tkV,hq0,qQ,ZF]
   (repeat with_reducible refine om ?_)
   simp (disch:=omega) [zz,Tryz.f53,XT,zX,yM]
   rw[<-yM]
   exact XT _
  ·simp (disch:=omega) [zz,tkV,hq0,qQ,ZF]
   (repeat with_reducible refine om ?_)
   simp (disch:=omega) [zz,Tryz.f53,XT,zX,yM]
   rw[<-yM]
   exact XT _
 ·have hf:out++uQ t.key row true []=out:=by simp[uQ]
  rw[hf]
  simp (disch:=omega) [zz,Tryz.f53,XT,zX]
theorem zlv (l:List qD) (hl:l.length<=12000000):PC Tryz.prog 58 [.av (.slice 56) (qU l)] (.av DgS (kD (Z5 none l))):=by
 refine zow Tryz.func58 cf0 fun imm0 w0=>?_
 simp (disch:=omega) [zz,zX]
 obtain⟨F,hF⟩:∃F:Nat->List Dig,F=fun n=>Z5 none (l.take n):=⟨_,rfl⟩
 have hF0:F 0=[]:=by rw[hF];rfl
 have hFe:F l.length=Z5 none l:=by rw[hF];simp only;rw[List.take_length]
 have hFs:∀n (h:n<l.length),F (n+1)=F n++if uH none (l.take n)=some l[n].key then [] else [l[n].key]:=fun n h=>by
  rw[hF];simp only
  rw[List.take_succ_eq_append_getElem h,gQ]
 have hFl:∀n,n<=l.length->(F n).length<=n:=by
  intro n
  induction n with
  | zero=>intro _;rw[hF0];simp
  | succ n ih =>
   intro h
   have:=ih (by omega)
   rw[hFs n (by omega),List.length_append]
   split<;>simp<;>omega
 have hla:∀n (h:n<l.length),uH none (l.take (n+1))=some l[n].key:=fun n h=>by
  rw[List.take_succ_eq_append_getElem h];simp only[uH,List.getLast?_concat,Option.map_some,Option.some_or]
 clear hF
 refine AT.loop' (α:=Nat) (fun q=>St.of [(0,.av (.slice 56) (.sl .no (trs l))),(3,.av DgS (.sl (tkO 34 (F q).length) ((F q).map qK))),(4,.av (.int .i64) (.i .i64 q))] [] (fun j=>if j=34 then(F q).length else 0) [])
  (fun q=>q<=l.length) (fun q=>l.length-q) 0 ?_ ?_ ?_
 ·apply Le.of<;>simp[k8,z1,hF0,tkO]<;>try omega
 ·simp
 rintro q hq KL hN hE
 refine zrd cf0 ?_
 by_cases hlt:q<l.length
 ·have hlt':(q:Int)<l.length:=by omega
  have hg:=uB l q hlt
  have hs:=hFs q hlt
  have hfl:=hFl q hq
  by_cases hq0:q=0
  ·subst hq0
   have hs2:F 1=[l[0].key]:=by rw[hs,hF0];simp[uH]
   have hp1:0<l.length:=by omega
   have hp2:(0:Int)<l.length:=by omega
   have hp3:¬l=[]:=fun e=>by rw[e]at hp1;simp at hp1
   simp (disch:=omega) [zz,hp1,hp2,hp3,hg,q5,hF0,tkO,qQ]
   (repeat with_reducible refine om ?_)
   refine hN _ 1 ?_ (by omega) (by omega)
   apply Le.of<;>simp[k8,z1,hs2,tkO]<;>try omega
   all_goals (intro i;by_cases hi:i=34<;>simp[hi])
  ·obtain⟨p,rfl⟩:∃p,q=p+1:=⟨q-1,by omega⟩
   have hp:p<l.length:=by omega
   have hgp:=uB l p hp
   have hlp:=hla p hp
   rw[hlp]at hs
   have hqi:¬(p:Int)+1=0:=by omega
   have hli:(p:Int)+1<l.length:=by omega
   have hpi:(p:Int)<l.length:=by omega
   have htn:((p:Int)+1-1).toNat=p:=by omega
   have htm:((p:Int)+1).toNat=p+1:=by omega
   obtain⟨x,hx⟩:∃x,x=l[p+1]:=⟨_,rfl⟩
   obtain⟨y,hy⟩:∃y,y=l[p]:=⟨_,rfl⟩
   rw[<-hx]at hg hs
   rw[<-hy]at hgp hs
   by_cases he:x.key=y.key
   ·have hs2:F (p+1+1)=F (p+1):=by rw[hs,if_pos (by rw[he]),List.append_nil]
    simp (disch:=omega) [zz,hlt',hqi,hli,hpi,htn,htm,hg,hgp,q5,qK,he,j9]
    (repeat with_reducible refine om ?_)
    refine hN _ (p+1+1) ?_ (by omega) (by omega)
    apply Le.of<;>simp[k8,z1,hs2]<;>try omega
   ·have he2:¬y.key=x.key:=fun e=>he e.symm
    have hs2:F (p+1+1)=F (p+1)++[x.key]:=by rw[hs,if_neg (fun e=>he2 (Option.some.inj e))]
    obtain⟨w,hw⟩:∃w,w=F (p+1):=⟨_,rfl⟩
    rw[<-hw]at hs2 hfl |-
    rcases Nat.eq_zero_or_pos w.length with h0|h0
    ·have hwn:w=[]:=List.eq_nil_of_length_eq_zero h0
     subst hwn
     simp (disch:=omega) [zz,hlt',hqi,hli,hpi,htn,htm,hg,hgp,q5,qK,he,j9,tkO,qQ]
     (repeat with_reducible refine om ?_)
     refine hN _ (p+1+1) ?_ (by omega) (by omega)
     apply Le.of<;>simp[k8,z1,hs2,tkO,qK]<;>try omega
     all_goals (intro i;by_cases hi:i=34<;>simp[hi])
    ·have htp:=zdW 34 h0
     simp (disch:=omega) [zz,hlt',hqi,hli,hpi,htn,htm,hg,hgp,q5,qK,he,j9,htp,qQ,List.length_map]
     (repeat with_reducible refine om ?_)
     refine hN _ (p+1+1) ?_ (by omega) (by omega)
     apply Le.of<;>simp[k8,z1,hs2,tkO,qK]<;>try omega
     all_goals (intro i;by_cases hi:i=34<;>simp[hi])
 ·have hlt':¬(q:Int)<l.length:=by omega
  have hqn:q=l.length:=by omega
  subst hqn
  rw[hFe]
  simp (disch:=omega) [zz,hlt']
  refine hE _ _ (by simp) ?_
  simp (disch:=omega) [zz,Tryz.f58,kD]
  simp[AV.ers_eq,Function.comp_def]
end
end Go.Proofs.YtognnffjdckalaaGreatDoor
