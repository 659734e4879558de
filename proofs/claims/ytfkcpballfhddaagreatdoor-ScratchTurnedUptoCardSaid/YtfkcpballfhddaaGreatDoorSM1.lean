/- The other way round. No condition. -/
import Derived.Test.YtfkcpballfhddaaGreatDoorSC2
import Derived.Test.YtfkcpballfhddaaGreatDoorTK0ToSD1
set_option linter.unusedSimpArgs false
set_option linter.unusedVariables false
set_option linter.unusedSectionVars false
set_option maxRecDepth 100000
namespace Go.Proofs.YtfkcpballfhddaaGreatDoor
open Go Go.Ab
open Classical
variable [Sel] [SelPow] [SelMax]
def kS (w:qQ):qQ:=⟨w.files,w.acts.reverse,w.wants,w.keep⟩
theorem zk4 (w:qQ):kS (kS w)=w:=by
 unfold kS;simp
theorem Z6 (w:qQ):(kS w).acts.length=w.acts.length:=by simp[kS]
theorem XT {w:qQ} {i:Nat} (hi:i<w.acts.length):(kS w).acts[w.acts.length-1-i]'(by rw[Z6];omega)=w.acts[i]:=by
 simp only[kS,List.getElem_reverse]
 congr 1
 omega
theorem zk1 {a:wD} {L L':List Txt} (h:Y1 a L=0) (h':xI L' a.outs=false):Y1 a L'=0:=by
 have h0:=h
 unfold Y1 at h |-
 by_cases h1:(KT a.tool).1=0
 rotate_left
 ·rw[if_pos h1]at h;exact absurd h h1
 rw[if_neg (by simp[h1])]at h |-
 split at h
 ·cases h
 ·rename_i h2
  rw[if_neg h2,if_neg (by rw[h'];simp)]
theorem zjG:∀ {L l:List Txt},(∀p∈l,p∉L)->l.Nodup->xI L l=false
 | _,[],_,_=>rfl
 | L,p::r,h,hd=>by
  unfold xI
  rw[List.nodup_cons]at hd
  rw[if_neg (h p (by simp))]
  refine zjG (fun q hq hL=>?_) hd.2
  rcases List.mem_append.1 hL with hL|hL
  ·exact h q (by simp[hq]) hL
  ·rw[List.mem_singleton.1 hL]at hq;exact hd.1 hq
theorem WkL.turn {w:qQ} (h:WkL w):WkL (kS w):=by
 refine⟨h.c0,by rw[Z6];exact h.n,fun j hj=>?_,h.wl,h.wm⟩
 rw[Z6]at hj
 obtain⟨i,hi,rfl⟩:∃i,i<w.acts.length/\w.acts.length-1-i=j:=⟨w.acts.length-1-j,by omega,by omega⟩
 rw[XT hi]
 refine zk1 (h.one i hi) (zjG (fun p hp hL=>?_) (DX (XR (h.one i hi)).2.2.2.2.2).2)
 obtain⟨a,ha,hpa⟩:=List.mem_flatMap.1 hL
 obtain⟨k,hk,rfl⟩:=List.mem_take_iff_getElem.1 ha
 rw[Z6]at hk
 obtain⟨m,hm,rfl⟩:∃m,m<w.acts.length/\w.acts.length-1-m=k:=⟨w.acts.length-1-k,by omega,by omega⟩
 rw[XT hm]at hpa
 have:=h.uniq hi hm hp hpa
 omega
theorem zfQ {w:qQ} (h:WkL w):YK (qL w) (qL (kS w)) (fun i=>w.acts.length-1-i) (fun i=>i<w.acts.length):=by
 refine⟨fun i hi=>?_,fun i p hi _=>⟨?_,fun j hj=>(Q6 hj).1,fun _=>rfl⟩⟩
 ·rw[uK hi,uK (by rw[Z6];omega),XT hi]
 ·show jK (kS w).acts p=(jK w.acts p).map _
  cases hm:jK w.acts p with
  | none =>
   rw[Option.map_none]
   cases hm2:jK (kS w).acts p with
   | none=>rfl
   | some k =>
    exfalso
    obtain⟨hk,hp⟩:=Q6 hm2
    have:(kS w).acts[k]∈w.acts:=by
     simp[kS]
    exact h.none hm _ this hp
  | some j =>
   obtain⟨hj,hp⟩:=Q6 hm
   rw[Option.map_some]
   exact h.turn.maker (by rw[Z6];omega) (by rw[XT hj];exact hp)
theorem zfg {w:qQ} (h:WkL w) {i:Nat} (hi:i<w.acts.length):jH (qL (kS w)) (w.acts.length-1-i)=jH (qL w) i:=(zfQ h).fin hi
theorem cS {w:qQ} (h:WkL w) {j:Nat} (ha:wT w j):wT (kS w) (w.acts.length-1-j):=by
 obtain⟨p,hp,m,hm,hj⟩:=ha
 have hmn:=(Q6 hm).1
 have hs:=zfQ h
 have hm':jK (kS w).acts p=some (w.acts.length-1-m):=by
  obtain⟨_,hpo⟩:=Q6 hm
  exact h.turn.maker (by rw[Z6];omega) (by rw[XT hmn];exact hpo)
 refine⟨p,hp,_,hm',?_⟩
 rcases hj with rfl|hj
 ·exact .inl rfl
 ·exact .inr (hs.tran hmn hj).1
theorem zbM {w:qQ} (h:WkL w) {j:Nat} (hj:j<w.acts.length):wT (kS w) (w.acts.length-1-j)<->wT w j:=by
 refine⟨fun ha=>?_,cS h⟩
 have:=cS h.turn ha
 rw[zk4,Z6]at this
 rwa[show w.acts.length-1-(w.acts.length-1-j)=j from by omega]at this
theorem zku {w:qQ} (h:WkL w) {i:Nat} (hi:i<w.acts.length):(kY (kS w))[w.acts.length-1-i]?=(kY w)[i]?:=by
 unfold kY
 rw[List.getElem?_map,List.getElem?_map,Z6,List.getElem?_range (by omega),List.getElem?_range hi,Option.map_some,Option.map_some,zfg h hi]
 by_cases ha:wT w i
 ·rw[if_pos ha,if_pos ((zbM h hi).2 ha)]
 ·rw[if_neg ha,if_neg fun h'=>ha ((zbM h hi).1 h')]
theorem zhI {w:qQ} (h:WkL w):G2 (kS w) (QN (kS w))=G2 w (QN w):=by
 have e:QN (kS w)=QN w:=rfl
 rw[e]
 unfold G2
 congr 1
 funext p
 have hc:J9 (qL (kS w)) [] p=J9 (qL w) [] p:=by
  unfold J9
  cases hm:jK w.acts p with
  | none =>
   have:jK (kS w).acts p=none:=by
    cases hm2:jK (kS w).acts p with
    | none=>rfl
    | some k =>
     exfalso
     obtain⟨hk,hp⟩:=Q6 hm2
     have:(kS w).acts[k]∈w.acts:=by
      simp[kS]
     exact h.none hm _ this hp
   rw[show (qL (kS w)).who p=none from this,show (qL w).who p=none from hm]
   rfl
  | some j =>
   obtain⟨hj,hp⟩:=Q6 hm
   rw[show (qL (kS w)).who p=some (w.acts.length-1-j) from h.turn.maker (by rw[Z6];omega) (by rw[XT hj];exact hp),show (qL w).who p=some j from hm]
   simp only[List.not_mem_nil,if_false,zfg h hj]
 unfold zgi
 rw[hc]
end Go.Proofs.YtfkcpballfhddaaGreatDoor
