/- The reference's May, Dir, Under. No condition. -/
import Derived.Test.YtognnffjdckalaaGreatDoorE4aToP10
import Derived.Test.YtognnffjdckalaaGreatDoorD1To
set_option linter.unusedSimpArgs false
set_option linter.unusedVariables false
set_option linter.unusedSectionVars false
set_option maxHeartbeats 64000000
set_option maxRecDepth 100000
namespace Go.Proofs.YtognnffjdckalaaGreatDoor
open Go Go.Ab
open Classical
section
variable [Sel]
def QG:List (List UInt8)->List UInt8
 | []=>[]
 | [x]=>x
 | x::y::r=>x++47::QG (y::r)
theorem vH:∀(p q:List (List UInt8)),p≠[]->q≠[]->QG (p++q)=QG p++47::QG q
 | [],q,h,_=>absurd rfl h
 | [x],[],_,h=>absurd rfl h
 | [x],y::r,_,_=>rfl
 | x::y::r,q,_,hq=>by
  have:=vH (y::r) q (by simp) hq
  show x++47::QG (y::r++q)=_
  rw[this];simp[QG]
theorem YT:∀l,QG (qP 47 l)=l
 | []=>rfl
 | b::l=>by
  have ih:=YT l
  unfold qP
  split
  ·rename_i hb;subst hb
   cases hs:qP 47 l with
   | nil=>exact absurd hs (ZY _ _)
   | cons x r=>rw[hs]at ih;simp[QG,ih]
  ·cases hs:qP 47 l with
   | nil=>exact absurd hs (ZY _ _)
   | cons x r =>
    rw[hs]at ih
    cases r with
    | nil=>simp only[QG]at ih |-;rw[ih]
    | cons z q=>simp only[QG]at ih |-;rw[<-ih];rfl
theorem ZU:∀(l x:List UInt8),x∈qP 47 l->(47:UInt8)∉x
 | [],x,h=>by simp_all[qP]
 | b::l,x,h=>by
  unfold qP at h
  split at h
  ·rcases List.mem_cons.1 h with rfl|h
   ·simp
   ·exact ZU l x h
  ·rename_i hb
   cases hs:qP 47 l with
   | nil=>grind
   | cons y r =>
    rw[hs]at h
    rcases List.mem_cons.1 h with rfl|h
    ·have:=ZU l y (by rw[hs];simp)
     grind
    ·exact ZU l x (by rw[hs];simp[h])
theorem gR:∀(x:List UInt8),(47:UInt8)∉x->qP 47 x=[x]
 | [],_=>rfl
 | b::l,h=>by
  simp only[List.mem_cons,not_or]at h
  rw[qP,if_neg (fun e=>h.1 e.symm),gR l h.2]
theorem gA:∀(a b:List UInt8),qP 47 (a++47::b)=qP 47 a++qP 47 b
 | [],b=>by simp[qP]
 | x::a,b=>by
  have ih:=gA a b
  simp only[List.cons_append,qP]
  split
  ·rw[ih];simp
  ·rw[ih]
   cases hs:qP 47 a with
   | nil=>exact absurd hs (ZY _ _)
   | cons y r=>simp
theorem D7:∀(p:List (List UInt8)),p≠[]->(∀x∈p,(47:UInt8)∉x)->qP 47 (QG p)=p
 | [],h,_=>absurd rfl h
 | [x],_,h=>gR x (h x (by simp))
 | x::y::r,_,h=>by
  show qP 47 (x++47::QG (y::r))=_
  rw[gA,gR x (h x (by simp)),D7 (y::r) (by simp) (fun z hz=>h z (by simp[hz]))]
  rfl
def uL (l:List UInt8):List UInt8:=if Z3 l=true/\(qP 47 l).length≠1 then QG (qP 47 l).dropLast else []
theorem zdn (l:List UInt8):Z3 l=true<->(qP 47 l).length<=16/\∀x∈qP 47 l,QT x=true:=by simp[Z3]
theorem zgs {l:List UInt8} (hm:Z3 l=true) (h1:(qP 47 l).length≠1):∃x,l=uL l++47::x/\(47:UInt8)∉x/\Z3 (uL l)=true/\uL l≠[]:=by
 have hne:=ZY 47 l
 have hdl:(qP 47 l).dropLast≠[]:=by
  intro h
  have:=congrArg List.length h
  grind [List.length_pos_iff]
 have hd:uL l=QG (qP 47 l).dropLast:=by simp_all[uL]
 have hmem:∀x∈(qP 47 l).dropLast,x∈qP 47 l:=fun x hx=>(List.dropLast_sublist _).subset hx
 have hsp:qP 47 (uL l)=(qP 47 l).dropLast:=by
  grind [D7,ZU]
 rw[zdn]at hm
 refine⟨(qP 47 l).getLast hne,?_,ZU l _ (List.getLast_mem hne),?_,?_⟩
 ·rw[hd]
  have:=vH (qP 47 l).dropLast [(qP 47 l).getLast hne] hdl (by simp)
  rw[List.dropLast_concat_getLast hne,YT]at this
  exact this
 ·grind [zdn]
 ·intro h0
  rw[h0]at hsp
  simp only[qP]at hsp
  have:=hm.2 [] (hmem [] (by grind))
  simp_all[QT]
theorem zla {u x d:List UInt8} (hx:(47:UInt8)∉x):KE (u++47::x) (d++[47])=(decide (u=d)||KE u (d++[47])):=by
 rw[Bool.eq_iff_iff]
 simp only[KE,decide_eq_true_eq,Bool.or_eq_true,List.length_append,List.length_singleton]
 have key:∀l:List UInt8,l.take (d.length+1)=d++[47]<->l.take d.length=d/\l[d.length]?=some 47:=by
  intro l
  constructor
  ·intro h
   have hlen:=congrArg List.length h
   simp at hlen
   constructor
   ·have:=congrArg (List.take d.length) h
    grind
   ·have:=congrArg (·[d.length]?) h
    grind
  simp_all[List.getElem?_eq_some_iff,List.take_succ_eq_append_getElem]
 grind
theorem zpS {l d:List UInt8} (hm:Z3 l=true) (hp:KE l (d++[47])=true):Z3 d=true:=by
 simp only[KE,decide_eq_true_eq]at hp
 have hl:l=d++47::l.drop (d++[47]).length:=by
  grind [List.take_append_drop]
 rw[zdn]at hm |-
 rw[hl,gA]at hm
 refine⟨by grind,fun x hx=>hm.2 x (by simp[hx])⟩
theorem zfo {l d:List UInt8} (hm:Z3 l=true) (hd:d≠[]):wF l d=(decide (uL l≠[])&&(decide (uL l=d)||wF (uL l) d)):=by
 have hu:∀l,Z3 l=true->wF l d=KE l (d++[47]):=by
  intro l hm
  simp only[wF,hm,hd,decide_false,Bool.true_and,Bool.false_or]
  grind [zpS]
 rw[hu l hm]
 by_cases h1:(qP 47 l).length=1
 ·have hd0:uL l=[]:=by simp[uL,h1]
  rw[hd0]
  simp only[ne_eq,not_true_eq_false,decide_false,Bool.false_and]
  have h47:(47:UInt8)∉l:=by
   cases hs:qP 47 l with
   | nil=>simp_all
   | cons x r =>
    rw[hs]at h1
    obtain rfl:r=[]:=List.eq_nil_of_length_eq_zero (by simp_all)
    have h3:=YT l
    rw[hs]at h3
    rw[<-h3]
    exact ZU l x (by rw[hs];simp)
  cases hp:KE l (d++[47])with
  | false=>rfl
  | true =>
   exfalso
   simp only[KE,decide_eq_true_eq]at hp
   grind [List.mem_of_mem_take]
 ·obtain⟨x,hl,hx,hm2,hne⟩:=zgs hm h1
  rw[hu _ hm2]
  simp only[hne,ne_eq,not_false_eq_true,decide_true,Bool.true_and]
  grind [zla]
theorem zpt {l:List UInt8} (hne:uL l≠[]):(uL l).length<l.length:=by
 by_cases hm:Z3 l=true
 ·by_cases h1:(qP 47 l).length=1
  ·simp_all[uL]
  ·obtain⟨x,hl,_⟩:=zgs hm h1
   grind
 simp_all[uL]
theorem zY:qK kZ=.agg (List.replicate 32 (.i .u8 0)):=by simp[qK,kZ]
def tr0:qD:=⟨kZ,[],[]⟩
def V3:List UInt8:=[111,117,116]
noncomputable def yO:List (List UInt8)->List yH->Int
 | _,[]=>0
 | met,r::rs=>if Z3 r.path=false then 1 else if r.path∈met then 8 else if r.is=false/\r.sum≠kZ then 5 else yO (met++[r.path]) rs
noncomputable def ZD:Option (List UInt8)->List Made->Int
 | _,[]=>0
 | none,m::ms=>if wF m.path V3=false then 1 else ZD (some m.path) ms
 | some q,m::ms=>if wF m.path V3=false then 1 else if m.path=q then 8 else if Op.bytesLess m.path q=true then 2 else ZD (some m.path) ms
noncomputable def qY (t:qD):Int:=if 500<t.reads.length\/1000<t.outs.length then 6 else if yO [] t.reads≠0 then yO [] t.reads else ZD none t.outs
def zc2 (l:List (List UInt8)):List (AV × AV):=l.map fun p=>(.s p,.b true)
theorem C2 (p:List UInt8):∀l,yT (.s p) (zc2 l)=if p∈l then some (.b true) else none
 | []=>rfl
 | q::l=>by
  have:=C2 p l
  simp only[zc2,List.map_cons,yT]at this |-
  by_cases h:q=p
  ·simp[h]
  ·have h':¬p=q:=fun e=>h e.symm
   simp only[AV.s.injEq,h,if_false,this,List.mem_cons,h',false_or]
theorem zcI {p:List UInt8}:∀ {l},p∉l->JL (.s p) (.b true) (zc2 l)=zc2 (l++[p])
 | [],_=>rfl
 | q::l,h=>by
  simp only[List.mem_cons,not_or]at h
  have:=zcI (l:=l) h.2
  have h':¬q=p:=fun e=>h.1 e.symm
  simp only[zc2,List.map_cons,JL,AV.s.injEq,h',if_false]at this |-
  rw[this];rfl
@[simp] theorem zsB (l:List (List UInt8)):(zc2 l).map (fun p=>(p.1.er,p.2.er))=zc2 l:=by simp[zc2,AV.er,Function.comp_def]
def zsd (l:List yH):Prop:=l.length<=9223372036854775807/\∀r∈l,r.path.length<=9223372036854775807
def zsf (l:List Made):Prop:=l.length<=9223372036854775807/\∀r∈l,r.path.length<=9223372036854775807
theorem zl9 (l:List yH) (hl:zsd l):PC Tryz.prog 144 [.av (.slice 82) (qE l)] (.av (.int .i64) (.i .i64 (yO [] l))):=by
 obtain⟨hl1,hl2⟩:=hl
 unfold PC
 refine q6.sub (R:=fun r H'=>r=.av (.int .i64) (.i .i64 (yO [] l))) ?_ (fun r H' hr _=>⟨[],HSub.of_sub (List.nil_sublist _),hr,rfl⟩)
 refine zov Tryz.func144 cf0 fun imm0 w0=>?_
 simp (disch:=omega) [zz,qE]
 intro b
 refine AT.loop' (α:=Nat) (fun k=>St.of [(3,.av (.map 9 4) (.map (some b))),(7,.av (.slice 82) (qE l)),(8,.av (.int .i64) (.i .i64 l.length)),(9,.av (.int .i64) (.i .i64 k))] [] (fun _=>0) [(b,.map 9 4 (zc2 ((l.take k).map (·.path))))])
  (fun k=>k<=l.length/\yO [] l=yO ((l.take k).map (·.path)) (l.drop k)) (fun k=>l.length-k) 0 ?_ ?_ ?_
 ·apply Le.of<;>simp[le9,qE,zc2]<;>try omega
 ·simp
 rintro k ⟨hk,hpk⟩ KL hN hE
 refine zrd cf0 ?_
 by_cases hlt:k<l.length
 ·have hlt':(k:Int)<l.length:=by omega
  have hdr:l.drop k=l[k]::l.drop (k+1):=(List.getElem_cons_drop hlt).symm
  have htk:(l.take (k+1)).map (·.path)=(l.take k).map (·.path)++[l[k].path]:=by
   rw[List.take_succ_eq_append_getElem hlt]
   simp only[List.map_append,List.map_cons,List.map_nil]
  have hg:=wC qV l k hlt
  have hpl:=hl2 l[k] (List.getElem_mem _)
  obtain⟨r,hr⟩:∃r,r=l[k]:=⟨_,rfl⟩
  rw[<-hr]at hdr htk hg hpl
  generalize hmet:(l.take k).map (·.path)=met at *
  have hfd:=C2 r.path met
  rw[hdr,yO]at hpk
  simp (disch:=omega) [zz,hlt',hg,qE,qV]
  refine zcv (zi8 r.path (by omega)) ?_
  cases hm:Z3 r.path
  ·rw[if_pos hm]at hpk
   simp (disch:=omega) [zz]
   refine hE _ _ (by simp) ?_
   simp (disch:=omega) [zz,Tryz.f144,hpk]
  rw[if_neg (by simp[hm])]at hpk
  by_cases hin:r.path∈met
  ·rw[if_pos hin]at hpk hfd
   simp (disch:=omega) [zz,hfd]
   refine hE _ _ (by simp) ?_
   simp (disch:=omega) [zz,Tryz.f144,hpk]
  rw[if_neg hin]at hpk hfd
  have hmp:=zcI hin
  cases his:r.is
  ·by_cases hz:r.sum=kZ
   ·rw[if_neg (by simp[hz])]at hpk
    simp (disch:=omega) [zz,hfd,his,hz,zY,hmp,-List.reduceReplicate]
    refine hN _ (k+1) ?_ ⟨by omega,by rw[htk];exact hpk⟩ (by omega)
    apply Le.of<;>simp[le9,qE,htk]<;>try omega
   ·rw[if_pos ⟨his,hz⟩]at hpk
    have hz':¬r.sum.map (fun b=>AV.i .u8 b.toNat)=List.replicate 32 (.i .u8 0):=by
     intro h
     have:=zY
     simp only[qK,AV.agg.injEq]at this
     exact hz (j9.1 (h.trans this.symm))
    simp (disch:=omega) [zz,hfd,his,qK,hz',-List.reduceReplicate]
    refine hE _ _ (by simp) ?_
    simp (disch:=omega) [zz,Tryz.f144,hpk]
  ·rw[if_neg (by simp[his])]at hpk
   simp (disch:=omega) [zz,hfd,his,hmp]
   refine hN _ (k+1) ?_ ⟨by omega,by rw[htk];exact hpk⟩ (by omega)
   apply Le.of<;>simp[le9,qE,htk]<;>try omega
 ·have hlt':¬(k:Int)<l.length:=by omega
  simp (disch:=omega) [zz,hlt']
  refine hE _ _ (by simp) ?_
  rw[List.drop_of_length_le (by omega),yO]at hpk
  simp (disch:=omega) [zz,Tryz.f144,hpk]
def xG (l:List Made) (k:Nat):Option (List UInt8):=if k=0 then none else(l[k-1]?).map (·.path)
theorem zpx (l:List Made) (hl:zsf l):PC Tryz.prog 145 [.av (.slice 77) (qF l)] (.av (.int .i64) (.i .i64 (ZD none l))):=by
 obtain⟨hl1,hl2⟩:=hl
 refine zow Tryz.func145 cf0 fun imm0 w0=>?_
 simp (disch:=omega) [zz,qF]
 refine AT.loop' (α:=Nat) (fun k=>St.of [(0,.av (.slice 77) (qF l)),(5,.av (.slice 77) (qF l)),(6,.av (.int .i64) (.i .i64 l.length)),(7,.av (.int .i64) (.i .i64 k))] [] (fun _=>0) [])
  (fun k=>k<=l.length/\ZD none l=ZD (xG l k) (l.drop k)) (fun k=>l.length-k) 0 ?_ ?_ ?_
 ·apply Le.of<;>simp[le9,qF]<;>try omega
 ·simp[xG]
 rintro k ⟨hk,hpk⟩ KL hN hE
 refine zrd cf0 ?_
 by_cases hlt:k<l.length
 ·have hlt':(k:Int)<l.length:=by omega
  have hdr:l.drop k=l[k]::l.drop (k+1):=(List.getElem_cons_drop hlt).symm
  have hpn:xG l (k+1)=some l[k].path:=by simp[xG,List.getElem?_eq_getElem hlt]
  have hg:=wC qS l k hlt
  have hpl:=hl2 l[k] (List.getElem_mem _)
  by_cases h0:k=0
  ·have h0':¬0<k:=by omega
   obtain⟨m,hm⟩:∃m,m=l[k]:=⟨_,rfl⟩
   rw[<-hm]at hdr hpn hg hpl
   rw[hdr,xG,if_pos h0,ZD]at hpk
   simp (disch:=omega) [zz,hlt',hg,qF,qS]
   refine YE (zg7 m.path V3 (by omega) (by decide)) rfl rfl (by simp) (by simp[q9,TV.er,AV.er,coC,V3]) ?_
   cases hu:wF m.path V3
   ·rw[if_pos hu]at hpk
    simp (disch:=omega) [zz]
    refine hE _ _ (by simp) ?_
    simp (disch:=omega) [zz,Tryz.f145,hpk]
   ·rw[if_neg (by simp[hu])]at hpk
    simp (disch:=omega) [zz,h0']
    refine hN _ (k+1) ?_ ⟨by omega,by rw[hpn];exact hpk⟩ (by omega)
    apply Le.of<;>simp[le9,qF]<;>try omega
  ·have h0':0<k:=by omega
   have hk1:k-1<l.length:=by omega
   have hk1':(k:Int)-1<l.length:=by omega
   have hk1'':(1:Int)<=k:=by omega
   have hgp:=wC qS l (k-1) hk1
   have hprev:xG l k=some l[k-1].path:=by simp[xG,h0,List.getElem?_eq_getElem hk1]
   obtain⟨q,hq⟩:∃q,q=l[k-1]:=⟨_,rfl⟩
   obtain⟨m,hm⟩:∃m,m=l[k]:=⟨_,rfl⟩
   rw[<-hm]at hdr hpn hg hpl
   rw[<-hq]at hgp hprev
   rw[hdr,hprev,ZD]at hpk
   simp (disch:=omega) [zz,hlt',hg,qF,qS]
   refine YE (zg7 m.path V3 (by omega) (by decide)) rfl rfl (by simp) (by simp[q9,TV.er,AV.er,coC,V3]) ?_
   cases hu:wF m.path V3
   ·rw[if_pos hu]at hpk
    simp (disch:=omega) [zz]
    refine hE _ _ (by simp) ?_
    simp (disch:=omega) [zz,Tryz.f145,hpk]
   rw[if_neg (by simp[hu])]at hpk
   by_cases he:m.path=q.path
   ·rw[if_pos he]at hpk
    simp (disch:=omega) [zz,h0',hk1',hk1'',hgp,he,qS]
    (repeat with_reducible refine om ?_)
    refine hE _ _ (by simp) ?_
    simp (disch:=omega) [zz,Tryz.f145,hpk]
   rw[if_neg he]at hpk
   cases hbl:Op.bytesLess m.path q.path
   ·rw[if_neg (by simp[hbl])]at hpk
    simp (disch:=omega) [zz,h0',hk1',hk1'',hgp,he,qS,hbl]
    (repeat with_reducible refine om ?_)
    refine hN _ (k+1) ?_ ⟨by omega,by rw[hpn];exact hpk⟩ (by omega)
    apply Le.of<;>simp[le9,qF]<;>try omega
   ·rw[if_pos hbl]at hpk
    simp (disch:=omega) [zz,h0',hk1',hk1'',hgp,he,qS,hbl]
    (repeat with_reducible refine om ?_)
    refine hE _ _ (by simp) ?_
    simp (disch:=omega) [zz,Tryz.f145,hpk]
 ·have hlt':¬(k:Int)<l.length:=by omega
  simp (disch:=omega) [zz,hlt']
  refine hE _ _ (by simp) ?_
  rw[List.drop_of_length_le (by omega)]at hpk
  have hz:∀o,ZD o []=0:=fun o=>by cases o<;>rfl
  rw[hz]at hpk
  simp (disch:=omega) [zz,Tryz.f145,hpk]
def TrP (t:qD):Prop:=zsd t.reads/\zsf t.outs
theorem UV (t:qD) (ht:TrP t):PC Tryz.prog 86 [.av (q8 Tryz.prog 56) (q5 t)] (.av (.int .i64) (.i .i64 (qY t))):=by
 refine zow Tryz.func86 cf0 fun imm0 w0=>?_
 by_cases h1:500<t.reads.length
 ·have h1':(500:Int)<t.reads.length:=by omega
  simp (disch:=omega) [zz,q5,qE,qF,h1',Tryz.f86,qY,h1]
 have h1':¬(500:Int)<t.reads.length:=by omega
 by_cases h2:1000<t.outs.length
 ·have h2':(1000:Int)<t.outs.length:=by omega
  simp (disch:=omega) [zz,q5,qE,qF,h1',h2',Tryz.f86,qY,h1,h2]
 have h2':¬(1000:Int)<t.outs.length:=by omega
 simp (disch:=omega) [zz,q5,qE,qF,h1',h2']
 refine YE (zl9 t.reads ht.1) rfl rfl (by simp) (by simp[q9,TV.er,AV.er,AV.ers_eq,Function.comp_def,qE]) ?_
 by_cases h3:yO [] t.reads=0
 ·simp (disch:=omega) [zz,h3]
  refine YE (zpx t.outs ht.2) rfl rfl (by simp) (by simp[q9,TV.er,AV.er,AV.ers_eq,Function.comp_def,qF]) ?_
  simp (disch:=omega) [zz,Tryz.f86,qY,h1,h2,h3]
 ·simp (disch:=omega) [zz,h3,Tryz.f86,qY,h1,h2]
theorem zk2 (l:List yH) (hl:l.length<=1000):PC Tryz.prog 158 [.av (.slice 82) (qE l)] (.av (.slice 82) (qE l)):=by
 refine zow Tryz.func158 cf0 fun imm0 w0=>?_
 simp (disch:=omega) [zz,qE]
 refine⟨?_,?_⟩
 ·intro h
  subst h
  simp (disch:=omega) [zz,Tryz.f158]
 ·simp (disch:=omega) [zz,qQ,Tryz.f158]
  exact⟨by omega,by omega,by simp[AV.ers_eq,Function.comp_def]⟩
theorem zkO (l:List Made) (hl:l.length<=1000):PC Tryz.prog 159 [.av (.slice 77) (qF l)] (.av (.slice 77) (qF l)):=by
 refine zow Tryz.func159 cf0 fun imm0 w0=>?_
 simp (disch:=omega) [zz,qF]
 refine⟨?_,?_⟩
 ·intro h
  subst h
  simp (disch:=omega) [zz,Tryz.f159]
 ·simp (disch:=omega) [zz,qQ,Tryz.f159]
  exact⟨by omega,by omega,by simp[AV.ers_eq,Function.comp_def]⟩
def TrS (t:qD):Prop:=t.reads.length<=1000/\t.outs.length<=1000
theorem TrS.ok {t:qD} (h:TrS t):uN t:=⟨Nat.le_trans h.1 (by decide),Nat.le_trans h.2 (by decide)⟩
abbrev zsO:Cfg:=⟨fun _=>false,fun n=>n==9||n==10⟩
theorem PQ (t:qD) (ht:TrS t):PC Tryz.prog 104 [.av (q8 Tryz.prog 56) (q5 t)] (.av (q8 Tryz.prog 56) (q5 t)):=by
 obtain⟨h1,h2⟩:=ht
 refine zow Tryz.func104 zsO fun imm0 w0=>?_
 simp (disch:=omega) [zz,q5]
 (repeat with_reducible refine om ?_)
 refine XF (zk2 t.reads h1) rfl rfl (by simp) (by simp[q9,TV.er]) ?_
 simp (disch:=omega) [zz]
 (repeat with_reducible refine om ?_)
 refine XF (zkO t.outs h2) rfl rfl (by simp) (by simp[q9,TV.er]) ?_
 simp (disch:=omega) [zz,Tryz.f104]
 (repeat with_reducible refine om ?_)
 kernel_rfl
abbrev zsb:Cfg:=⟨fun _=>false,fun n=>n==5⟩
theorem zgV (ts:List qD) (b cap:Nat) (j:List AV) (hj:JK j) (hcap:ts.length+j.length=cap) (hn:ts.length<=1000) :
  q6 Tryz.prog 123 [.av (.slice 56) (.msl b 56 0 ts.length cap)] [(b,k7 cap ts j)]
   fun r H'=>∃b' cap' j',JK j'/\ts.length+j'.length=cap'/\r=.av (.slice 56) (.msl b' 56 0 ts.length cap')/\H'=[(b',k7 cap' ts j'),(b,k7 cap ts j)]:=by
 refine q6.sub (R:=fun r H'=>∃b' cap' j',JK j'/\ts.length+j'.length=cap'/\r=.av (.slice 56) (.msl b' 56 0 ts.length cap')/\HSub [(b',k7 cap' ts j'),(b,k7 cap ts j)] H') ?_ fun r H' ⟨b',cap',j',h1,h2,h3,h4⟩ _=>⟨_,h4,b',cap',j',h1,h2,h3,rfl⟩
 have htk:(trs ts++j).take ts.length=trs ts:=by rw[List.take_append_of_le_length (by simp)];exact List.take_of_length_le (by simp)
 have her:AV.erks (trs ts++j)=trs ts++j:=JK.app (JK.trs ts) hj
 refine zov Tryz.func123 zsb fun imm0 w0=>?_
 simp (disch:=omega) [zz,-List.reduceReplicate,k7]
 intro b5 hb5
 simp (disch:=omega) [zz,-List.reduceReplicate,hb5,htk]
 have hb5':¬b=b5:=fun e=>hb5 e.symm
 refine⟨by omega,⟨by omega,by omega⟩,fun h0=>?_,fun h0 b' cap' h1 h2 hc=>?_⟩
 ·have:ts=[]:=by
   rcases h0 with h0|h0
   ·exact h0
   ·simpa[trs]using h0.1
  subst this
  (simp (maxSteps:=2000000) (disch:=first|omega|assumption) [zz,-List.reduceReplicate,Tryz.f123,trs,hj,her])
  refine⟨b5,0,[],JK.nil,by simp,by simp,HSub.of_sub ?_⟩
  have:AV.erks j=j:=hj
  simp[this]
 ·have hz:=JK.app (JK.trs ts) (JK.zeros (cap'-ts.length))
  unfold JK XP at hz
  (simp (maxSteps:=2000000) (disch:=first|omega|assumption) [zz,-List.reduceReplicate,Tryz.f123,hz,her])
  refine⟨b',cap',List.replicate (cap'-ts.length) XP,JK.zeros _,by simp;omega,⟨rfl,rfl⟩,⟨_,List.Perm.refl _,?_⟩⟩
  exact((List.Sublist.refl _).cons _).cons_cons _
theorem zfa:q6 Tryz.prog 123 [.av (.slice 56) .nsl] [] fun r H'=>r=.av (.slice 56) (.sl .no [])/\H'=[]:=by
 refine zov Tryz.func123 zsb fun imm0 w0=>?_
 simp (disch:=omega) [zz,Tryz.f123]
noncomputable abbrev DbT:TyD:=.struct [3,140]
noncomputable def dbO (M:Nat) (most:Int):HObj:=.var DbT (.agg [.i .i64 most,.map (some M)])
noncomputable def mpO (es:List (AV × AV)):HObj:=.map 53 36 es
def EK (es:List (AV × AV)):Prop:=es.map (fun p=>(p.1.er,p.2.er))=es
def VD (b n cap:Nat):AV:=.msl b 56 0 n cap
abbrev zth:Cfg:=⟨fun n=>n==13,fun _=>false⟩
theorem zri (most:Int) (h1:1<=most) (h8:most<=8):q6 Tryz.prog 26 [.av (.int .i64) (.i .i64 most)] [] fun r H'=>∃B M,M≠B/\r=.tup [(.ptr,.ptr B DbT []),(.int .i64,.i .i64 0)]/\H'=[(B,dbO M most),(M,mpO [])]:=by
 refine zov Tryz.func26 zth fun imm0 w0=>?_
 have e1:¬most<1:=by omega
 have e2:¬8<most:=by omega
 simp (disch:=omega) [zz,e1,e2]
 intro M B hB
 simp (disch:=omega) [zz,Tryz.f26,dbO,mpO]
 exact fun e=>hB e.symm
theorem zn7 (most:Int) (h:most<1\/8<most):PC Tryz.prog 26 [.av (.int .i64) (.i .i64 most)] (.tup [(.ptr,.nilptr),(.int .i64,.i .i64 2)]):=by
 refine zow Tryz.func26 cf0 fun imm0 w0=>?_
 by_cases e1:most<1
 ·simp (disch:=omega) [zz,e1,Tryz.f26]
 ·have e2:8<most:=by omega
  simp (disch:=omega) [zz,e1,e2,Tryz.f26]
abbrev ziB:Cfg:=⟨fun _=>false,fun n=>n==1000003||n==2000015⟩
theorem zrq (k:Dig) (es:List (AV × AV)) (he:EK es) (most:Int) (B M b cap:Nat) (hBM:B≠M) (ts:List qD) (hts:∀x∈ts,TrS x) (j:List AV) (hj:JK j) (hf:yT (qK k) es=some (VD b ts.length cap)) (hcap:ts.length+j.length=cap) (hn:ts.length<=1000) :
  q6 Tryz.prog 65 [.av .ptr (.ptr B DbT []),.av (q8 Tryz.prog 53) (qK k)] [(B,dbO M most),(M,mpO es),(b,k7 cap ts j)]
   fun r H'=>∃b' cap' j',JK j'/\ts.length+j'.length=cap'/\r=.av (.slice 56) (.msl b' 56 0 ts.length cap')/\H'=[(b',k7 cap' ts j'),(B,dbO M most),(M,mpO es),(b,k7 cap ts j)]:=by
 have hBM':¬M=B:=fun e=>hBM e.symm
 refine zov Tryz.func65 ziB fun imm0 w0=>?_
 simp (disch:=omega) [zz,dbO,mpO]
 refine j6.of [0,1,2,3,4,5,6,7] [] (by kernel_rfl) ?_
 simp (disch:=omega) [zz,dbO,mpO,hBM,hBM',hf,VD]
 (repeat with_reducible refine om ?_)
 refine qM (R:=fun r H'=>∃b' cap' j',JK j'/\ts.length+j'.length=cap'/\r=.av (.slice 56) (.msl b' 56 0 ts.length cap')/\H'=[(b',k7 cap' ts j'),(b,k7 cap ts j)]) [(b,k7 cap ts j)] [(B,dbO M most),(M,mpO es)] (List.perm_append_comm (l₁:=[(B,dbO M most),(M,mpO es)])) rfl (by simp[qH]) (by simp) ?_ ?_
 ·have:=zgV ts b cap j hj hcap hn
  simpa[TV.er,AV.er,YW hj]using this
 rintro r' H' ⟨b',cap',j',hj',hcap',rfl,rfl⟩ hnd
 refine⟨[(b',k7 cap' ts j'),(B,dbO M most),(M,mpO es),(b,k7 cap ts j)],HSub.of_perm (List.Perm.cons _ (List.perm_append_comm (l₁:=[(b,k7 cap ts j)]))),?_⟩
 simp[q7.keys]at hnd
 simp (disch:=omega) [zz]
 refine AT.loop' (α:=Nat) (fun k=>St.of [(5,.av (.slice 56) (.msl b' 56 0 ts.length cap')),(17,.av (.int .i64) (.i .i64 ts.length)),(18,.av (.int .i64) (.i .i64 k))] [] (fun _=>0) [(b',k7 cap' ts j'),(B,dbO M most),(M,mpO es),(b,k7 cap ts j)])
  (fun k=>k<=ts.length) (fun k=>ts.length-k) 0 ?_ ?_ ?_
 ·apply Le.of<;>simp[k8,z1,jF]<;>try omega
 ·simp
 rintro k hk KL hN hE
 refine zrd ziB ?_
 by_cases hlt:k<ts.length
 ·have hlt':(k:Int)<ts.length:=by omega
  have hg:=zgb ts j' k hlt
  have jZ:(trs ts++j').set k (q5 ts[k])=trs ts++j':=by
   have h1:k<(trs ts++j').length:=by simp;omega
   have h2:(trs ts++j')[k]=q5 ts[k]:=by
    rw[List.getElem?_eq_getElem h1]at hg;exact Option.some.inj hg
   rw[<-h2];exact List.set_getElem_self h1
  simp (disch:=omega) [zz,hlt',k7,hg]
  (repeat with_reducible refine om ?_)
  refine YE (PQ ts[k] (hts _ (List.getElem_mem hlt))) rfl rfl (by simp) (by simp[q9,TV.er]) ?_
  simp (disch:=omega) [zz,hlt',hg,jZ]
  (repeat with_reducible refine om ?_)
  refine hN _ (k+1) ?_ (by omega) (by omega)
  apply Le.of<;>simp[k8,z1,k7]<;>try omega
 ·have hlt':¬(k:Int)<ts.length:=by omega
  simp (disch:=omega) [zz,hlt']
  refine hE _ _ (by simp) ?_
  have he':es.map (fun p=>(p.1.er,p.2.er))=es:=he
  have h1:AV.erks (trs ts++j')=trs ts++j':=JK.app (JK.trs _) hj'
  have h2:AV.erks (trs ts++j)=trs ts++j:=JK.app (JK.trs _) hj
  simp (disch:=omega) [zz,Tryz.f65,k7,dbO,mpO,he',h1,h2]
  exact⟨b',cap',j',hj',hcap',by simp⟩
theorem zoA (k:Dig) (es:List (AV × AV)) (he:EK es) (most:Int) (B M b cap:Nat) (hBM:B≠M) (ts:List qD) (hts:∀x∈ts,TrS x) (j:List AV) (hj:JK j) (hf:yT (qK k) es=some (VD b ts.length cap)) (hcap:ts.length+j.length=cap) (hn:ts.length<=1000) :
  q6 Tryz.prog 65 [.av .ptr (.ptr B DbT []),.av (q8 Tryz.prog 53) (qK k)] [(B,dbO M most),(M,mpO es),(b,k7 cap ts j)]
   fun r H'=>r=.av (.slice 56) (.sl .no (trs ts))/\H'=[(B,dbO M most),(M,mpO es),(b,k7 cap ts j)]:=by
 refine(zrq k es he most B M b cap hBM ts hts j hj hf hcap hn).freeze laid ?_
 rintro r H' ⟨b',cap',j',hj',hcap',rfl,rfl⟩ hnd
 refine .inl ⟨b',cap',56,trs ts++j',_,List.Perm.refl _,?_,rfl⟩
 have htk:(trs ts++j').take ts.length=trs ts:=by rw[List.take_append_of_le_length (by simp)];exact List.take_of_length_le (by simp)
 simp[V2,fzA,hcap',htk]
 omega
theorem zoo (k:Dig) (es:List (AV × AV)) (he:EK es) (most:Int) (B M:Nat) (hBM:B≠M) (hf:yT (qK k) es=none) :
  q6 Tryz.prog 65 [.av .ptr (.ptr B DbT []),.av (q8 Tryz.prog 53) (qK k)] [(B,dbO M most),(M,mpO es)]
   fun r H'=>r=.av (.slice 56) (.sl .no [])/\H'=[(B,dbO M most),(M,mpO es)]:=by
 have hBM':¬M=B:=fun e=>hBM e.symm
 refine zov Tryz.func65 ziB fun imm0 w0=>?_
 simp (disch:=omega) [zz,dbO,mpO]
 refine j6.of [0,1,2,3,4,5,6,7] [] (by kernel_rfl) ?_
 simp (disch:=omega) [zz,dbO,mpO,hBM,hBM',hf,zN]
 (repeat with_reducible refine om ?_)
 refine qM (R:=fun r H'=>r=.av (.slice 56) (.sl .no [])/\H'=[]) [] [(B,dbO M most),(M,mpO es)] (List.Perm.refl _) rfl (by simp[qH]) (by simp) ?_ ?_
 ·exact zfa
 rintro r' H' ⟨rfl,rfl⟩ hnd
 refine⟨[(B,dbO M most),(M,mpO es)],HSub.refl _,?_⟩
 simp (disch:=omega) [zz]
 refine AT.loop' (α:=Nat) (fun k=>St.of [(5,.av (.slice 56) (.sl .no [])),(17,.av (.int .i64) (.i .i64 0)),(18,.av (.int .i64) (.i .i64 0))] [] (fun _=>0) [(B,dbO M most),(M,mpO es)])
  (fun k=>True) (fun k=>0) 0 ?_ ?_ ?_
 ·apply Le.of<;>simp[k8,z1,jF]<;>try omega
 ·simp
 rintro k-KL hN hE
 refine zrd ziB ?_
 simp (disch:=omega) [zz]
 refine hE _ _ (by simp) ?_
 have he':es.map (fun p=>(p.1.er,p.2.er))=es:=he
 simp (disch:=omega) [zz,Tryz.f65,dbO,mpO,he']
end
end Go.Proofs.YtognnffjdckalaaGreatDoor
