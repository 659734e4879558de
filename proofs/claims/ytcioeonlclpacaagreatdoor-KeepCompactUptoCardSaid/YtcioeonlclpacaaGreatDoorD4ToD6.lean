/- Copies of traces; what is kept of a key. No condition beyond each theorem's own. -/
import Derived.Test.YtcioeonlclpacaaGreatDoorD1To
import Derived.Test.YtcioeonlclpacaaGreatDoorSH2ToP16
set_option linter.unusedSimpArgs false
set_option linter.unusedVariables false
set_option linter.unusedSectionVars false
section
set_option maxRecDepth 100000
namespace Go.Proofs.YtcioeonlclpacaaGreatDoor
open Go Go.Ab
open Classical
variable [Sel]
@[simp] theorem zor:qZ Tryz.prog 22=true:=by kernel_rfl
@[simp] theorem zsb:z8 Tryz.prog (.func 22)=false:=q9 zor
@[simp] theorem zns:qZ Tryz.prog 26=true:=by kernel_rfl
@[simp] theorem zsf:z8 Tryz.prog (.func 26)=false:=q9 zns
theorem zPJ (l:List XF) (hl:l.length≤1000):PC Tryz.prog 124 [.av (.slice 105) (qF l)] (.av (.slice 105) (qF l)):=by
 refine zow Tryz.func124 cf0 fun imm0 w0=>?_
 (simp (maxSteps:=2000000) (disch:=first|omega|assumption) [zz,qF])
 refine⟨?_,?_⟩
 ·intro h
  subst h
  (simp (maxSteps:=2000000) (disch:=first|omega|assumption) [zz,Tryz.f124])
 ·(simp (maxSteps:=2000000) (disch:=first|omega|assumption) [zz,wB,Tryz.f124])
  exact⟨by omega,by omega,by simp[AV.ers_eq,Function.comp_def]⟩
theorem zPT (l:List Made) (hl:l.length≤1000):PC Tryz.prog 125 [.av (.slice 95) (qJ l)] (.av (.slice 95) (qJ l)):=by
 refine zow Tryz.func125 cf0 fun imm0 w0=>?_
 (simp (maxSteps:=2000000) (disch:=first|omega|assumption) [zz,qJ])
 refine⟨?_,?_⟩
 ·intro h
  subst h
  (simp (maxSteps:=2000000) (disch:=first|omega|assumption) [zz,Tryz.f125])
 ·(simp (maxSteps:=2000000) (disch:=first|omega|assumption) [zz,wB,Tryz.f125])
  exact⟨by omega,by omega,by simp[AV.ers_eq,Function.comp_def]⟩
def TrS (t:zaP):Prop:=t.reads.length≤1000∧t.outs.length≤1000
theorem TrS.ok {t:zaP} (h:TrS t):zG2 t:=⟨Nat.le_trans h.1 (by decide),Nat.le_trans h.2 (by decide)⟩
abbrev zTu:Cfg:=⟨fun _=>false,fun n=>n==9||n==10⟩
theorem zLt (t:zaP) (ht:TrS t):PC Tryz.prog 60 [.av (qD Tryz.prog 49) (qK t)] (.av (qD Tryz.prog 49) (qK t)):=by
 obtain⟨h1,h2⟩:=ht
 refine zow Tryz.func60 zTu fun imm0 w0=>?_
 (simp (maxSteps:=2000000) (disch:=first|omega|assumption) [zz,-List.reduceReplicate,qK])
 (repeat with_reducible refine om ?_)
 refine jC (zPJ t.reads h1) rfl rfl (by simp) (by simp[qS,TV.er]) ?_
 (simp (maxSteps:=2000000) (disch:=first|omega|assumption) [zz,-List.reduceReplicate])
 (repeat with_reducible refine om ?_)
 refine jC (zPT t.outs h2) rfl rfl (by simp) (by simp[qS,TV.er]) ?_
 (simp (maxSteps:=2000000) (disch:=first|omega|assumption) [zz,-List.reduceReplicate,Tryz.f60])
 (repeat with_reducible refine om ?_)
 kernel_rfl
abbrev zSV:Cfg:=⟨fun _=>false,fun n=>n==5⟩
theorem zOy (ts:List zaP) (b cap:Nat) (j:List AV) (hj:JK j) (hcap:ts.length+j.length=cap) (hn:ts.length≤1000) :
  q7 Tryz.prog 69 [.av (.slice 49) (.msl b 49 0 ts.length cap)] [(b,KR cap ts j)]
   fun r H'=>∃b' cap' j',JK j'∧ts.length+j'.length=cap'∧r=.av (.slice 49) (.msl b' 49 0 ts.length cap')∧H'=[(b',KR cap' ts j'),(b,KR cap ts j)]:=by
 refine q7.sub (R:=fun r H'=>∃b' cap' j',JK j'∧ts.length+j'.length=cap'∧r=.av (.slice 49) (.msl b' 49 0 ts.length cap')∧HSub [(b',KR cap' ts j'),(b,KR cap ts j)] H') ?_ fun r H' ⟨b',cap',j',h1,h2,h3,h4⟩ _=>⟨_,h4,b',cap',j',h1,h2,h3,rfl⟩
 have htk:(trs ts++j).take ts.length=trs ts:=by rw[List.take_append_of_le_length (by simp)];exact List.take_of_length_le (by simp)
 have her:AV.erks (trs ts++j)=trs ts++j:=JK.app (JK.trs ts) hj
 refine zov Tryz.func69 zSV fun imm0 w0=>?_
 (simp (maxSteps:=2000000) (disch:=first|omega|assumption) [zz,-List.reduceReplicate,KR])
 intro b5 hb5
 (simp (maxSteps:=2000000) (disch:=first|omega|assumption) [zz,-List.reduceReplicate,hb5,htk])
 have hb5':¬b=b5:=fun e=>hb5 e.symm
 refine⟨by omega,⟨by omega,by omega⟩,fun h0=>?_,fun h0 b' cap' h1 h2 hc=>?_⟩
 ·have:ts=[]:=by
   rcases h0 with h0|h0
   ·exact h0
   ·simpa[trs]using h0.1
  subst this
  (simp (maxSteps:=2000000) (disch:=first|omega|assumption) [zz,-List.reduceReplicate,Tryz.f69,trs,hj,her])
  refine⟨b5,0,[],JK.nil,by simp,by simp,HSub.of_sub ?_⟩
  have:AV.erks j=j:=hj
  simp[this]
 ·have hz:=JK.app (JK.trs ts) (JK.zeros (cap'-ts.length))
  unfold JK zKs at hz
  (simp (maxSteps:=2000000) (disch:=first|omega|assumption) [zz,-List.reduceReplicate,Tryz.f69,hz,her])
  refine⟨b',cap',List.replicate (cap'-ts.length) zKs,JK.zeros _,by simp;omega,⟨rfl,rfl⟩,⟨_,List.Perm.refl _,?_⟩⟩
  exact((List.Sublist.refl _).cons _).cons_cons _
theorem zNF:q7 Tryz.prog 69 [.av (.slice 49) .nsl] [] fun r H'=>r=.av (.slice 49) (.sl .no [])∧H'=[]:=by
 refine zov Tryz.func69 zSV fun imm0 w0=>?_
 (simp (maxSteps:=2000000) (disch:=first|omega|assumption) [zz,-List.reduceReplicate,Tryz.f69])
/-! ### a db -/
noncomputable abbrev DbT:TyD:=.struct [3,127]
noncomputable def dbO (M:Nat) (most:Int):HObj:=.var DbT (.agg [.i .i64 most,.map (some M)])
noncomputable def mpO (es:List (AV × AV)):HObj:=.map 46 55 es
def EK (es:List (AV × AV)):Prop:=es.map (fun p=>(p.1.er,p.2.er))=es
def zKW (b n cap:Nat):AV:=.msl b 49 0 n cap
abbrev zeA:Cfg:=⟨fun n=>n==13,fun _=>false⟩
theorem DZ (most:Int) (h1:1≤most) (h8:most≤8):q7 Tryz.prog 22 [.av (.int .i64) (.i .i64 most)] [] fun r H'=>∃B M,M≠B∧r=.tup [(.ptr,.ptr B DbT []),(.int .i64,.i .i64 0)]∧H'=[(B,dbO M most),(M,mpO [])]:=by
 refine zov Tryz.func22 zeA fun imm0 w0=>?_
 have e1:¬most<1:=by omega
 have e2:¬8<most:=by omega
 (simp (maxSteps:=2000000) (disch:=first|omega|assumption) [zz,-List.reduceReplicate,e1,e2])
 intro M B hB
 (simp (maxSteps:=2000000) (disch:=first|omega|assumption) [zz,-List.reduceReplicate,Tryz.f22,dbO,mpO])
 exact fun e=>hB e.symm
theorem zQA (most:Int) (h:most<1∨8<most):PC Tryz.prog 22 [.av (.int .i64) (.i .i64 most)] (.tup [(.ptr,.nilptr),(.int .i64,.i .i64 2)]):=by
 refine zow Tryz.func22 cf0 fun imm0 w0=>?_
 by_cases e1:most<1
 ·(simp (maxSteps:=2000000) (disch:=first|omega|assumption) [zz,-List.reduceReplicate,e1,Tryz.f22])
 ·have e2:8<most:=by omega
  (simp (maxSteps:=2000000) (disch:=first|omega|assumption) [zz,-List.reduceReplicate,e1,e2,Tryz.f22])
abbrev zPb:Cfg:=⟨fun _=>false,fun n=>n==1000003||n==2000015⟩
set_option maxHeartbeats 4000000 in
theorem zSi (k:Dig) (es:List (AV × AV)) (he:EK es) (most:Int) (B M b cap:Nat) (hBM:B≠M) (ts:List zaP) (hts:∀x∈ts,TrS x) (j:List AV) (hj:JK j) (hf:yY (KW k) es=some (zKW b ts.length cap)) (hcap:ts.length+j.length=cap) (hn:ts.length≤1000) :
  q7 Tryz.prog 26 [.av .ptr (.ptr B DbT []),.av (qD Tryz.prog 46) (KW k)] [(B,dbO M most),(M,mpO es),(b,KR cap ts j)]
   fun r H'=>∃b' cap' j',JK j'∧ts.length+j'.length=cap'∧r=.av (.slice 49) (.msl b' 49 0 ts.length cap')∧H'=[(b',KR cap' ts j'),(B,dbO M most),(M,mpO es),(b,KR cap ts j)]:=by
 have hBM':¬M=B:=fun e=>hBM e.symm
 refine zov Tryz.func26 zPb fun imm0 w0=>?_
 (simp (maxSteps:=2000000) (disch:=first|omega|assumption) [zz,-List.reduceReplicate,dbO,mpO])
 refine jW.of [0,1,2,3,4,5,6,7] [] (by kernel_rfl) ?_
 (simp (maxSteps:=2000000) (disch:=first|omega|assumption) [zz,-List.reduceReplicate,dbO,mpO,hBM,hBM',hf,zKW])
 (repeat with_reducible refine om ?_)
 refine qE (R:=fun r H'=>∃b' cap' j',JK j'∧ts.length+j'.length=cap'∧r=.av (.slice 49) (.msl b' 49 0 ts.length cap')∧H'=[(b',KR cap' ts j'),(b,KR cap ts j)]) [(b,KR cap ts j)] [(B,dbO M most),(M,mpO es)] (List.perm_append_comm (l₁:=[(B,dbO M most),(M,mpO es)])) rfl (by simp[qQ]) (by simp) ?_ ?_
 ·have:=zOy ts b cap j hj hcap hn
  simpa[TV.er,AV.er,zK9 hj]using this
 rintro r' H' ⟨b',cap',j',hj',hcap',rfl,rfl⟩ hnd
 refine⟨[(b',KR cap' ts j'),(B,dbO M most),(M,mpO es),(b,KR cap ts j)],HSub.of_perm (List.Perm.cons _ (List.perm_append_comm (l₁:=[(b,KR cap ts j)]))),?_⟩
 simp[q8.keys]at hnd
 (simp (maxSteps:=2000000) (disch:=first|omega|assumption) [zz,-List.reduceReplicate])
 refine AT.loop' (α:=Nat) (fun k=>St.of [(5,.av (.slice 49) (.msl b' 49 0 ts.length cap')),(17,.av (.int .i64) (.i .i64 ts.length)),(18,.av (.int .i64) (.i .i64 k))] [] (fun _=>0) [(b',KR cap' ts j'),(B,dbO M most),(M,mpO es),(b,KR cap ts j)])
  (fun k=>k≤ts.length) (fun k=>ts.length-k) 0 ?_ ?_ ?_
 ·apply Le.of<;>simp[qU,qG,zX]<;>try omega
 ·simp
 rintro k hk KL hN hE
 refine qM (cf:=zPb) laid mixed _ _ _ (by kernel_rfl) ?_
 by_cases hlt:k<ts.length
 ·have hlt':(k:Int)<ts.length:=by omega
  have hg:=zNZ ts j' k hlt
  have W1:(trs ts++j').set k (qK ts[k])=trs ts++j':=by
   have h1:k<(trs ts++j').length:=by simp;omega
   have h2:(trs ts++j')[k]=qK ts[k]:=by
    rw[List.getElem?_eq_getElem h1]at hg;exact Option.some.inj hg
   rw[←h2];exact List.set_getElem_self h1
  (simp (maxSteps:=2000000) (disch:=first|omega|assumption) [zz,-List.reduceReplicate,hlt',KR,hg])
  (repeat with_reducible refine om ?_)
  refine qL (zLt ts[k] (hts _ (List.getElem_mem hlt))) rfl rfl (by simp) (by simp[qS,TV.er]) ?_
  (simp (maxSteps:=2000000) (disch:=first|omega|assumption) [zz,-List.reduceReplicate,hlt',hg,W1])
  (repeat with_reducible refine om ?_)
  refine hN _ (k+1) ?_ (by omega) (by omega)
  apply Le.of<;>simp[qU,qG,KR]<;>try omega
 ·have hlt':¬(k:Int)<ts.length:=by omega
  (simp (maxSteps:=2000000) (disch:=first|omega|assumption) [zz,-List.reduceReplicate,hlt'])
  refine hE _ _ (by simp) ?_
  have he':es.map (fun p=>(p.1.er,p.2.er))=es:=he
  have h1:AV.erks (trs ts++j')=trs ts++j':=JK.app (JK.trs _) hj'
  have h2:AV.erks (trs ts++j)=trs ts++j:=JK.app (JK.trs _) hj
  (simp (maxSteps:=2000000) (disch:=first|omega|assumption) [zz,-List.reduceReplicate,Tryz.f26,KR,dbO,mpO,he',h1,h2])
  exact⟨b',cap',j',hj',hcap',by simp⟩
theorem zSe (k:Dig) (es:List (AV × AV)) (he:EK es) (most:Int) (B M b cap:Nat) (hBM:B≠M) (ts:List zaP) (hts:∀x∈ts,TrS x) (j:List AV) (hj:JK j) (hf:yY (KW k) es=some (zKW b ts.length cap)) (hcap:ts.length+j.length=cap) (hn:ts.length≤1000) :
  q7 Tryz.prog 26 [.av .ptr (.ptr B DbT []),.av (qD Tryz.prog 46) (KW k)] [(B,dbO M most),(M,mpO es),(b,KR cap ts j)]
   fun r H'=>r=.av (.slice 49) (.sl .no (trs ts))∧H'=[(B,dbO M most),(M,mpO es),(b,KR cap ts j)]:=by
 refine(zSi k es he most B M b cap hBM ts hts j hj hf hcap hn).freeze laid ?_
 rintro r H' ⟨b',cap',j',hj',hcap',rfl,rfl⟩ hnd
 refine .inl ⟨b',cap',49,trs ts++j',_,List.Perm.refl _,?_,rfl⟩
 have htk:(trs ts++j').take ts.length=trs ts:=by rw[List.take_append_of_le_length (by simp)];exact List.take_of_length_le (by simp)
 simp[zho,fzA,hcap',htk]
 omega
theorem zRO (k:Dig) (es:List (AV × AV)) (he:EK es) (most:Int) (B M:Nat) (hBM:B≠M) (hf:yY (KW k) es=none) :
  q7 Tryz.prog 26 [.av .ptr (.ptr B DbT []),.av (qD Tryz.prog 46) (KW k)] [(B,dbO M most),(M,mpO es)]
   fun r H'=>r=.av (.slice 49) (.sl .no [])∧H'=[(B,dbO M most),(M,mpO es)]:=by
 have hBM':¬M=B:=fun e=>hBM e.symm
 refine zov Tryz.func26 zPb fun imm0 w0=>?_
 (simp (maxSteps:=2000000) (disch:=first|omega|assumption) [zz,-List.reduceReplicate,dbO,mpO])
 refine jW.of [0,1,2,3,4,5,6,7] [] (by kernel_rfl) ?_
 (simp (maxSteps:=2000000) (disch:=first|omega|assumption) [zz,-List.reduceReplicate,dbO,mpO,hBM,hBM',hf,zN])
 (repeat with_reducible refine om ?_)
 refine qE (R:=fun r H'=>r=.av (.slice 49) (.sl .no [])∧H'=[]) [] [(B,dbO M most),(M,mpO es)] (List.Perm.refl _) rfl (by simp[qQ]) (by simp) ?_ ?_
 ·exact zNF
 rintro r' H' ⟨rfl,rfl⟩ hnd
 refine⟨[(B,dbO M most),(M,mpO es)],HSub.refl _,?_⟩
 (simp (maxSteps:=2000000) (disch:=first|omega|assumption) [zz,-List.reduceReplicate])
 refine AT.loop' (α:=Nat) (fun k=>St.of [(5,.av (.slice 49) (.sl .no [])),(17,.av (.int .i64) (.i .i64 0)),(18,.av (.int .i64) (.i .i64 0))] [] (fun _=>0) [(B,dbO M most),(M,mpO es)])
  (fun k=>True) (fun k=>0) 0 ?_ ?_ ?_
 ·apply Le.of<;>simp[qU,qG,zX]<;>try omega
 ·simp
 rintro k-KL hN hE
 refine qM (cf:=zPb) laid mixed _ _ _ (by kernel_rfl) ?_
 (simp (maxSteps:=2000000) (disch:=first|omega|assumption) [zz,-List.reduceReplicate])
 refine hE _ _ (by simp) ?_
 have he':es.map (fun p=>(p.1.er,p.2.er))=es:=he
 (simp (maxSteps:=2000000) (disch:=first|omega|assumption) [zz,-List.reduceReplicate,Tryz.f26,dbO,mpO,he'])
@[simp] theorem znT:qZ Tryz.prog 23=true:=by kernel_rfl
@[simp] theorem zru:z8 Tryz.prog (.func 23)=false:=q9 znT
theorem zL5 {es:List (AV × AV)}:EK es↔∀p∈es,p.1.er=p.1∧p.2.er=p.2:=by
 unfold EK
 constructor
 ·intro h p hp
  have h1:∀x∈es,(fun p:AV × AV=>(p.1.er,p.2.er)) x=x:=by
   have:es.map (fun p:AV × AV=>(p.1.er,p.2.er))=es.map id:=by rw[h];simp
   exact fun x hx=>(List.map_inj_left.1 this) x hx
  have:=h1 p hp
  obtain⟨a,b⟩:=p
  simpa using this
 ·intro h
  conv=>rhs;rw[←List.map_id es]
  exact List.map_congr_left fun p hp=>by obtain⟨a,b⟩:=p;have:=h _ hp;simp at this;simp[this]
theorem zNq {k v:AV} (hk:k.er=k) (hv:v.er=v):∀ {es:List (AV × AV)},EK es→EK (xX k v es)
 | [],_=>by simp[xX,EK,hk,hv]
 | (x,y)::r,h=>by
  rw[zL5]at h
  have hr:EK r:=zL5.2 fun p hp=>h p (List.mem_cons_of_mem _ hp)
  have h0:=h (x,y) (by simp)
  have ih:=zNq hk hv hr
  unfold xX
  split
  ·rw[zL5];intro p hp
   rcases List.mem_cons.1 hp with rfl|hp
   ·exact⟨hk,hv⟩
   ·exact(zL5.1 hr) p hp
  ·rw[zL5];intro p hp
   rcases List.mem_cons.1 hp with rfl|hp
   ·exact h0
   ·exact(zL5.1 ih) p hp
theorem zKI {t:zaP} (h:zCW t=0):TrS t:=by
 unfold zCW at h
 split at h
 ·cases h
 ·exact⟨by omega,by omega⟩
theorem zQJ (x:zaP) (bv:Nat) :
  q7 Tryz.prog 59 [.av (.slice 49) .nsl,.cst (.int .i64 0),.av (.slice 49) (.msl bv 49 0 1 1)] [(bv,zLM x)] (zOp x []) :=
 q7.args (zPj x bv) (by simp[qS,coC,AV.er])
theorem zS7 (x:zaP) (ts:List zaP) (b bv cap:Nat) (j:List AV) (hj:JK j) (hb:b≠bv) (hcap:ts.length+j.length=cap) (hn:ts.length≤1000) :
  q7 Tryz.prog 59 [.av (.slice 49) (.msl b 49 0 ts.length cap),.cst (.int .i64 0),.av (.slice 49) (.msl bv 49 0 1 1)] [(b,KR cap ts j),(bv,zLM x)] (zOp x ts) :=
 q7.args (zQn x ts b bv cap j hj hb hcap hn) (by simp[qS,coC,AV.er])
abbrev zOJ:Cfg:=⟨fun n=>n==3,fun n=>n==26||n==1000006||n==2000022||n==1000008⟩
theorem zRr (t:zaP) (ht:TrP t) (hc:¬zCW t=0) (B:Nat) :
  q7 Tryz.prog 23 [.av .ptr (.ptr B DbT []),.av (qD Tryz.prog 49) (qK t)] [] fun r H'=>r=.av (.int .i64) (.i .i64 (zCW t))∧H'=[]:=by
 refine q7.sub (R:=fun r H'=>r=.av (.int .i64) (.i .i64 (zCW t))) ?_ fun r H' h _=>⟨[],HSub.of_sub (List.nil_sublist _),h,rfl⟩
 refine zov Tryz.func23 zOJ fun imm0 w0=>?_
 (simp (maxSteps:=2000000) (disch:=first|omega|assumption) [zz,-List.reduceReplicate])
 intro bt
 refine qL (zDX t ht) rfl rfl (by simp) (by simp[qS,TV.er]) ?_
 (simp (maxSteps:=2000000) (disch:=first|omega|assumption) [zz,-List.reduceReplicate,hc,Tryz.f23])
def zJr (mo:Nat) (t:zaP) (ts:List zaP):List zaP:=(t::kp t ts).take mo
set_option maxHeartbeats 8000000 in
theorem zRi (t:zaP) (ht:TrP t) (hc:zCW t=0) (es:List (AV × AV)) (he:EK es) (mo:Nat) (hm:1≤mo) (hm8:mo≤8) (B M:Nat) (hBM:B≠M) (hf:yY (KW t.key) es=none) :
  q7 Tryz.prog 23 [.av .ptr (.ptr B DbT []),.av (qD Tryz.prog 49) (qK t)] [(B,dbO M mo),(M,mpO es)]
   fun r H'=>r=.av (.int .i64) (.i .i64 0)∧∃b' cap' j',JK j'∧1+j'.length=cap'∧H'=[(B,dbO M mo),(M,mpO (xX (KW t.key) (zKW b' 1 cap') es)),(b',KR cap' [t] j')]:=by
 have hBM':¬M=B:=fun e=>hBM e.symm
 refine q7.sub (R:=fun r H'=>r=.av (.int .i64) (.i .i64 0)∧∃b' cap' j',JK j'∧1+j'.length=cap'∧HSub [(B,dbO M mo),(M,mpO (xX (KW t.key) (zKW b' 1 cap') es)),(b',KR cap' [t] j')] H') ?_ fun r H' ⟨h1,b',cap',j',h2,h3,h4⟩ _=>⟨_,h4,h1,b',cap',j',h2,h3,rfl⟩
 refine zov Tryz.func23 zOJ fun imm0 w0=>?_
 (simp (maxSteps:=2000000) (disch:=first|omega|assumption) [zz,-List.reduceReplicate,dbO,mpO])
 intro bt hb1 hb2
 have hb1':¬B=bt:=fun e=>hb1 e.symm
 have hb2':¬M=bt:=fun e=>hb2 e.symm
 refine qL (zDX t ht) rfl rfl (by simp) (by simp[qS,TV.er]) ?_
 (simp (maxSteps:=2000000) (disch:=first|omega|assumption) [zz,-List.reduceReplicate,hc])
 refine jW.of [0,1,2,3,4,5,6,7,8,9] [] (by kernel_rfl) ?_
 (simp (maxSteps:=2000000) (disch:=first|omega|assumption) [zz,-List.reduceReplicate,hBM,hBM',hb1,hb2,hb1',hb2',zN,qK,hf])
 (repeat with_reducible refine om ?_)
 refine qE (R:=fun r H'=>r=.av (.slice 49) .nsl∧H'=[(bt,tvO t)]) [(bt,tvO t)] [(B,dbO M mo),(M,mpO es)] (List.Perm.refl _) rfl (by simp[qQ]) (by simp) ?_ ?_
 ·have:=zPv t bt
  simpa[TV.er,AV.er,AV.ers,tvO,q8.er_cons,q8.er_nil,HObj.er_var]using this
 rintro r' H' ⟨rfl,rfl⟩ _
 refine⟨_,HSub.refl _,?_⟩
 (simp (maxSteps:=2000000) (disch:=first|omega|assumption) [zz,-List.reduceReplicate,tvO,qK,dbO,mpO])
 refine qL (zLt t (zKI hc)) rfl rfl (by simp) (by simp[qS,TV.er,qK]) ?_
 (simp (maxSteps:=2000000) (disch:=first|omega|assumption) [zz,-List.reduceReplicate,qK])
 intro bv hv1 hv2 hv3
 refine qE (R:=zOp t []) [(bv,zLM t)] [(bt,tvO t),(B,dbO M mo),(M,mpO es)] (List.Perm.refl _) rfl (by simp[qQ]) (by simp) ?_ ?_
 ·have:=zQJ t bv
  simpa[TV.er,AV.er,AV.ers,zLM,q8.er_cons,q8.er_nil,HObj.er_var,AV.erk,AV.erks]using this
 rintro r' H' ⟨b',cap',j',hj',hcap',rfl,rfl⟩ hnd
 simp[q8.keys]at hnd hcap'
 obtain⟨⟨hn1,hn2,hn3⟩,_⟩:=hnd
 refine⟨[(b',KR cap' [t] j'),(bt,tvO t),(B,dbO M mo),(M,mpO es)],HSub.refl _,?_⟩
 have hn1':¬bt=b':=fun e=>hn1 e.symm
 have hn2':¬B=b':=fun e=>hn2 e.symm
 have hn3':¬M=b':=fun e=>hn3 e.symm
 have hmin:¬(mo:Int)<1:=by omega
 (simp (maxSteps:=2000000) (disch:=first|omega|assumption) [zz,-List.reduceReplicate])
 refine jW.of [0,1,2,3,4,5,6,7,8,9,10,11,12,13,14,15] [] (by kernel_rfl) ?_
 (simp (maxSteps:=2000000) (disch:=first|omega|assumption) [zz,-List.reduceReplicate,hBM,hBM',hb1,hb2,hb1',hb2',hn1,hn2,hn3,hn1',hn2',hn3',qK,dbO,mpO,tvO,hmin])
 (repeat with_reducible refine om ?_)
 have hek:=zNq (zmb t.key) (v:=zKW b' 1 cap') rfl he
 unfold EK zKW at hek
 have hje:AV.erks j'=j':=hj'
 (simp (maxSteps:=2000000) (disch:=first|omega|assumption) [zz,-List.reduceReplicate,Tryz.f23,hek,KR,trs,hje])
 refine⟨b',cap',j',hj',hcap',⟨_,List.perm_append_comm (l₁:=[_]),(List.Sublist.refl _).cons _⟩⟩
set_option maxHeartbeats 8000000 in
theorem zS4 (t:zaP) (ht:TrP t) (hc:zCW t=0) (es:List (AV × AV)) (he:EK es) (mo:Nat) (hm:1≤mo) (hm8:mo≤8) (B M b cap:Nat) (hBM:B≠M) (hbB:b≠B) (hbM:b≠M) (ts:List zaP) (hts:∀x∈ts,TrS x) (j:List AV) (hj:JK j)
  (hf:yY (KW t.key) es=some (zKW b ts.length cap)) (hcap:ts.length+j.length=cap) (hn:ts.length≤100) :
  q7 Tryz.prog 23 [.av .ptr (.ptr B DbT []),.av (qD Tryz.prog 49) (qK t)] [(B,dbO M mo),(M,mpO es),(b,KR cap ts j)]
   fun r H'=>r=.av (.int .i64) (.i .i64 0)∧∃b' cap' j',JK j'∧(zJr mo t ts).length+j'.length=cap'∧H'=[(B,dbO M mo),(M,mpO (xX (KW t.key) (zKW b' (zJr mo t ts).length cap') es)),(b',KR cap' (zJr mo t ts) j')]:=by
 have hBM':¬M=B:=fun e=>hBM e.symm
 have hbB':¬B=b:=fun e=>hbB e.symm
 have hbM':¬M=b:=fun e=>hbM e.symm
 refine q7.sub (R:=fun r H'=>r=.av (.int .i64) (.i .i64 0)∧∃b' cap' j',JK j'∧(zJr mo t ts).length+j'.length=cap'∧HSub [(B,dbO M mo),(M,mpO (xX (KW t.key) (zKW b' (zJr mo t ts).length cap') es)),(b',KR cap' (zJr mo t ts) j')] H') ?_ fun r H' ⟨h1,b',cap',j',h2,h3,h4⟩ _=>⟨_,h4,h1,b',cap',j',h2,h3,rfl⟩
 refine zov Tryz.func23 zOJ fun imm0 w0=>?_
 (simp (maxSteps:=2000000) (disch:=first|omega|assumption) [zz,-List.reduceReplicate,dbO,mpO])
 intro bt hb1 hb2 hb3
 have hb1':¬B=bt:=fun e=>hb1 e.symm
 have hb2':¬M=bt:=fun e=>hb2 e.symm
 have hb3':¬b=bt:=fun e=>hb3 e.symm
 refine qL (zDX t ht) rfl rfl (by simp) (by simp[qS,TV.er]) ?_
 (simp (maxSteps:=2000000) (disch:=first|omega|assumption) [zz,-List.reduceReplicate,hc])
 refine jW.of [0,1,2,3,4,5,6,7,8,9] [] (by kernel_rfl) ?_
 (simp (maxSteps:=2000000) (disch:=first|omega|assumption) [zz,-List.reduceReplicate,hBM,hBM',hb1,hb2,hb3,hb1',hb2',hb3',hbB,hbM,hbB',hbM',zN,qK,hf,zKW])
 (repeat with_reducible refine om ?_)
 refine qE (R:=fun r H'=>∃j',JK j'∧(kp t ts).length+j'.length=cap∧r=.av (.slice 49) (.msl b 49 0 (kp t ts).length cap)∧H'=[(b,KR cap (kp t ts) j'),(bt,tvO t)]) [(b,KR cap ts j),(bt,tvO t)] [(B,dbO M mo),(M,mpO es)] (List.perm_append_comm (l₁:=[(bt,tvO t),(B,dbO M mo),(M,mpO es)]) |>.trans (List.Perm.cons _ (List.Perm.refl _))) rfl (by simp[qQ]) (by simp) ?_ ?_
 ·have:=zRa ts t (fun x hx=>(hts x hx).ok) (zKI hc).ok b bt cap j hj hb3' hcap (by omega)
  simpa[TV.er,AV.er,AV.ers,tvO,q8.er_cons,q8.er_nil,HObj.er_var,zK9 hj,TrT]using this
 rintro r' H' ⟨j1,hj1,hcap1,rfl,rfl⟩ _
 refine⟨_,HSub.refl _,?_⟩
 (simp (maxSteps:=2000000) (disch:=first|omega|assumption) [zz,-List.reduceReplicate,tvO,qK,dbO,mpO,hb1,hb2,hb3,hb1',hb2',hb3',KR])
 refine qL (zLt t (zKI hc)) rfl rfl (by simp) (by simp[qS,TV.er,qK]) ?_
 (simp (maxSteps:=2000000) (disch:=first|omega|assumption) [zz,-List.reduceReplicate,qK])
 intro bv hv0 hv1 hv2 hv3
 have hv0':¬b=bv:=fun e=>hv0 e.symm
 have hkl:(kp t ts).length≤100:=Nat.le_trans (zSt t ts) hn
 refine qE (R:=zOp t (kp t ts)) [(b,KR cap (kp t ts) j1),(bv,zLM t)] [(bt,tvO t),(B,dbO M mo),(M,mpO es)] (List.Perm.swap _ _ _) rfl (by simp[qQ]) (by simp) ?_ ?_
 ·have:=zS7 t (kp t ts) b bv cap j1 hj1 hv0' hcap1 (by omega)
  simpa[TV.er,AV.er,AV.ers,zLM,q8.er_cons,q8.er_nil,HObj.er_var,AV.erk,AV.erks,zK9 hj1]using this
 rintro r' H' ⟨b',cap',j',hj',hcap',rfl,rfl⟩ hnd
 simp[q8.keys]at hnd
 obtain⟨⟨hn1,hn2,hn3⟩,_⟩:=hnd
 refine⟨[(b',KR cap' (t::kp t ts) j'),(bt,tvO t),(B,dbO M mo),(M,mpO es)],HSub.refl _,?_⟩
 have hn1':¬bt=b':=fun e=>hn1 e.symm
 have hn2':¬B=b':=fun e=>hn2 e.symm
 have hn3':¬M=b':=fun e=>hn3 e.symm
 have hts':trs (t::kp t ts)++j'=trs (zJr mo t ts)++(trs ((t::kp t ts).drop mo)++j'):=by
  rw[←List.append_assoc,←zOW];unfold zJr;rw[List.take_append_drop]
 have hlen:(zJr mo t ts).length+(trs ((t::kp t ts).drop mo)++j').length=cap':=by
  have:=congrArg List.length hts'
  simp only[List.length_append,zL1,List.length_cons]at this ⊢
  omega
 have hjj:JK (trs ((t::kp t ts).drop mo)++j'):=(JK.trs _).app hj'
 have hal:(zJr mo t ts).length=if mo<(kp t ts).length+1 then mo else(kp t ts).length+1:=by
  unfold zJr;rw[List.length_take,List.length_cons];split<;>omega
 have hek:=zNq (zmb t.key) (v:=zKW b' (zJr mo t ts).length cap') rfl he
 by_cases hmin:mo<(kp t ts).length+1
 ·have hmin':(mo:Int)<(kp t ts).length+1:=by omega
  rw[if_pos hmin]at hal
  unfold EK zKW at hek
  rw[hal]at hek
  (simp (maxSteps:=2000000) (disch:=first|omega|assumption) [zz,-List.reduceReplicate])
  refine jW.of [0,1,2,3,4,5,6,7,8,9,10,11,12,13,14,15] [] (by kernel_rfl) ?_
  (simp (maxSteps:=2000000) (disch:=first|omega|assumption) [zz,-List.reduceReplicate,hBM,hBM',hb1,hb2,hb1',hb2',hn1,hn2,hn3,hn1',hn2',hn3',qK,dbO,mpO,tvO,hmin'])
  (repeat with_reducible refine om ?_)
  have hje:=(JK.trs (zJr mo t ts)).app hjj
  rw[←hts']at hje
  unfold JK at hje
  (simp (maxSteps:=2000000) (disch:=first|omega|assumption) [zz,-List.reduceReplicate,Tryz.f23,hek,KR,hje])
  refine⟨b',cap',_,hjj,hlen,⟨_,List.perm_append_comm (l₁:=[_]),?_⟩⟩
  rw[hal,←hts']
  exact(List.Sublist.refl _).cons _
 ·have hmin':¬(mo:Int)<(kp t ts).length+1:=by omega
  rw[if_neg hmin]at hal
  unfold EK zKW at hek
  rw[hal]at hek
  (simp (maxSteps:=2000000) (disch:=first|omega|assumption) [zz,-List.reduceReplicate])
  refine jW.of [0,1,2,3,4,5,6,7,8,9,10,11,12,13,14,15] [] (by kernel_rfl) ?_
  (simp (maxSteps:=2000000) (disch:=first|omega|assumption) [zz,-List.reduceReplicate,hBM,hBM',hb1,hb2,hb1',hb2',hn1,hn2,hn3,hn1',hn2',hn3',qK,dbO,mpO,tvO,hmin'])
  (repeat with_reducible refine om ?_)
  have hje:=(JK.trs (zJr mo t ts)).app hjj
  rw[←hts']at hje
  unfold JK at hje
  (simp (maxSteps:=2000000) (disch:=first|omega|assumption) [zz,-List.reduceReplicate,Tryz.f23,hek,KR,hje])
  refine⟨b',cap',_,hjj,hlen,⟨_,List.perm_append_comm (l₁:=[_]),?_⟩⟩
  rw[hal,←hts']
  exact(List.Sublist.refl _).cons _
abbrev DbL:=List (Dig × List zaP)
def getD (L:DbL) (k:Dig):List zaP:=match L.find? (fun p=>decide (p.1=k))with
 | some p=>p.2
 | none=>[]
def zJA (k:Dig) (v:List zaP):DbL→DbL
 | []=>[(k,v)]
 | (k',v')::r=>if k'=k then(k,v)::r else(k',v')::zJA k v r
noncomputable def zJj (mo:Nat) (L:DbL) (t:zaP):DbL:=if zCW t=0 then zJA t.key (zJr mo t (getD L t.key)) L else L
structure Cel where
 key:Dig
 b:Nat
 cap:Nat
 ts:List zaP
 j:List AV
def zt1 (c:Cel):AV × AV:=(KW c.key,zKW c.b c.ts.length c.cap)
noncomputable def zLb (c:Cel):Nat × HObj:=(c.b,KR c.cap c.ts c.j)
def zLA (c:Cel):Prop:=JK c.j∧c.ts.length+c.j.length=c.cap∧(∀x∈c.ts,TrS x)∧c.ts.length≤8
def zJx (cs:List Cel):DbL:=cs.map fun c=>(c.key,c.ts)
noncomputable def DbH (B M mo:Nat) (cs:List Cel):q8:=(B,dbO M mo)::(M,mpO (cs.map zt1))::cs.map zLb
theorem zL8 (cs:List Cel):EK (cs.map zt1):=by
 rw[zL5]
 intro p hp
 obtain⟨c,_,rfl⟩:=List.mem_map.1 hp
 exact⟨zmb _,rfl⟩
theorem zMp (k:Dig):∀cs:List Cel,
  (yY (KW k) (cs.map zt1)=none∧getD (zJx cs) k=[]∧(∀v,xX (KW k) v (cs.map zt1)=cs.map zt1++[(KW k,v)])∧∀v,zJA k v (zJx cs)=zJx cs++[(k,v)])∨
  ∃cs1 c cs2,cs=cs1++c::cs2∧c.key=k∧yY (KW k) (cs.map zt1)=some (zKW c.b c.ts.length c.cap)∧getD (zJx cs) k=c.ts∧(∀v,xX (KW k) v (cs.map zt1)=cs1.map zt1++(KW k,v)::cs2.map zt1)∧∀v,zJA k v (zJx cs)=zJx cs1++(k,v)::zJx cs2
 | []=>.inl ⟨rfl,rfl,fun v=>rfl,fun v=>rfl⟩
 | c::cs=>by
  by_cases h:c.key=k
  ·right
   refine⟨[],c,cs,rfl,h,?_,?_,fun v=>?_,fun v=>?_⟩
   ·simp[yY,zt1,h]
   ·simp[getD,zJx,h]
   ·simp[xX,zt1,h]
   ·simp[zJA,zJx,h]
  ·have h':¬KW c.key=KW k:=fun e=>h (ziF.1 e)
   rcases zMp k cs with⟨h1,h2,h3,h4⟩|⟨cs1,c',cs2,h0,hk,h1,h2,h3,h4⟩
   ·left
    refine⟨?_,?_,fun v=>?_,fun v=>?_⟩
    ·simp only[List.map_cons,zt1,yY,h',if_false];exact h1
    ·simp only[getD,zJx,List.map_cons,List.find?_cons,h,decide_false]at h2 ⊢;exact h2
    ·simp only[List.map_cons,zt1,xX,h',if_false,List.cons_append]
     rw[h3 v]
    ·simp only[zJx,List.map_cons,zJA,h,if_false,List.cons_append]
     rw[show cs.map (fun c=>(c.key,c.ts))=zJx cs from rfl,h4 v]
   ·right
    refine⟨c::cs1,c',cs2,by rw[h0];rfl,hk,?_,?_,fun v=>?_,fun v=>?_⟩
    ·simp only[List.map_cons,zt1,yY,h',if_false];exact h1
    ·simp only[getD,zJx,List.map_cons,List.find?_cons,h,decide_false]at h2 ⊢;exact h2
    ·simp only[List.map_cons,zt1,xX,h',if_false,List.cons_append]
     rw[h3 v]
    ·simp only[zJx,List.map_cons,zJA,h,if_false,List.cons_append]
     rw[show cs.map (fun c=>(c.key,c.ts))=zJx cs from rfl,h4 v]
     rfl
theorem zSB {mo:Nat} {t:zaP} {ts:List zaP} (ht:TrS t) (hts:∀x∈ts,TrS x):∀x∈zJr mo t ts,TrS x:=by
 intro x hx
 have:=List.mem_of_mem_take hx
 rcases List.mem_cons.1 this with rfl|h
 ·exact ht
 ·exact hts x (List.mem_filter.1 h).1
theorem zMb (mo:Nat) (t:zaP) (ts:List zaP):(zJr mo t ts).length≤mo:=by unfold zJr;rw[List.length_take];omega
theorem zOG {B M mo:Nat} {cs:List Cel} (h:(DbH B M mo cs).keys.Nodup):B≠M∧∀c∈cs,c.b≠B∧c.b≠M:=by
 have h1:(B::M::cs.map (·.b)).Nodup:=by
  have e:(DbH B M mo cs).keys=B::M::cs.map (·.b):=by simp[DbH,q8.keys,zLb,Function.comp_def]
  rw[e]at h;exact h
 simp only[List.nodup_cons,List.mem_cons,not_or]at h1
 refine⟨h1.1.1,fun c hc=>⟨fun e=>h1.1.2 (e▸List.mem_map.2 ⟨c,hc,rfl⟩),fun e=>h1.2.1 (e▸List.mem_map.2 ⟨c,hc,rfl⟩)⟩⟩
theorem zNv (t:zaP) (ht:TrP t) (mo:Nat) (hm:1≤mo) (hm8:mo≤8) (B M:Nat) (cs:List Cel) (hcs:∀c∈cs,zLA c) :
  q7 Tryz.prog 23 [.av .ptr (.ptr B DbT []),.av (qD Tryz.prog 49) (qK t)] (DbH B M mo cs)
   fun r H'=>r=.av (.int .i64) (.i .i64 (zCW t))∧∃cs',(∀c∈cs',zLA c)∧zJx cs'=zJj mo (zJx cs) t∧H'=DbH B M mo cs':=by
 refine q7.nodup fun hnd=>?_
 obtain⟨hBM,hbs⟩:=zOG hnd
 by_cases hc:zCW t=0
 rotate_left
 ·refine q7.use (Hs:=[]) (rest:=DbH B M mo cs) (List.Perm.refl _) (zRr t ht hc B) ?_
  rintro r H1 ⟨rfl,rfl⟩ _
  exact⟨_,HSub.refl _,rfl,cs,hcs,by simp[zJj,hc],rfl⟩
 have hadd:zJj mo (zJx cs) t=zJA t.key (zJr mo t (getD (zJx cs) t.key)) (zJx cs):=by simp[zJj,hc]
 rw[hadd,hc]
 rcases zMp t.key cs with⟨h1,h2,h3,h4⟩|⟨cs1,c,cs2,h0,hk,h1,h2,h3,h4⟩
 ·refine q7.use (Hs:=[(B,dbO M mo),(M,mpO (cs.map zt1))]) (rest:=cs.map zLb) (List.Perm.refl _) (zRi t ht hc _ (zL8 cs) mo hm hm8 B M hBM h1) ?_
  rintro r H1 ⟨rfl,b',cap',j',hj,hcap,rfl⟩ _
  have ha1:zJr mo t []=[t]:=by
   obtain⟨q,rfl⟩:∃q,mo=q+1:=⟨mo-1,by omega⟩
   simp[zJr,kp]
  refine⟨DbH B M mo (cs++[⟨t.key,b',cap',[t],j'⟩]),HSub.of_perm ?_,rfl,cs++[⟨t.key,b',cap',[t],j'⟩],?_,?_,rfl⟩
  ·rw[h3]
   simp only[DbH,List.map_append,List.map_cons,List.map_nil]
   exact List.Perm.cons _ (List.Perm.cons _ (List.perm_append_comm (l₁:=[_])))
  ·intro c hcc
   rcases List.mem_append.1 hcc with h|h
   ·exact hcs c h
   ·simp only[List.mem_singleton]at h;subst h
    exact⟨hj,hcap,fun x hx=>by simp only[List.mem_singleton]at hx;subst hx;exact zKI hc,by simp⟩
  ·rw[h2,ha1,h4];simp[zJx]
 ·have hcm:c∈cs:=by rw[h0];simp
  obtain⟨hj,hcap,hS,h8⟩:=hcs c hcm
  obtain⟨hb1,hb2⟩:=hbs c hcm
  refine q7.use (Hs:=[(B,dbO M mo),(M,mpO (cs.map zt1)),(c.b,KR c.cap c.ts c.j)]) (rest:=cs1.map zLb++cs2.map zLb) ?_ (zS4 t ht hc _ (zL8 cs) mo hm hm8 B M c.b c.cap hBM hb1 hb2 c.ts hS c.j hj h1 hcap (by omega)) ?_
  ·rw[DbH]
   refine List.Perm.cons _ (List.Perm.cons _ ?_)
   rw[h0,List.map_append,List.map_cons]
   exact List.perm_middle
  rintro r H1 ⟨rfl,b',cap',j',hj',hcap',rfl⟩ _
  refine⟨DbH B M mo (cs1++⟨t.key,b',cap',zJr mo t c.ts,j'⟩::cs2),HSub.of_perm ?_,rfl,cs1++⟨t.key,b',cap',zJr mo t c.ts,j'⟩::cs2,?_,?_,rfl⟩
  ·rw[h3]
   simp only[DbH,List.map_append,List.map_cons]
   exact List.Perm.cons _ (List.Perm.cons _ (List.perm_middle (l₁:=cs1.map zLb) (l₂:=cs2.map zLb) (a:=(b',KR cap' (zJr mo t c.ts) j'))).symm)
  ·intro x hx
   rcases List.mem_append.1 hx with h|h
   ·exact hcs x (by rw[h0];exact List.mem_append_left _ h)
   ·rcases List.mem_cons.1 h with rfl|h
    ·exact⟨hj',hcap',zSB (zKI hc) hS,Nat.le_trans (zMb _ _ _) hm8⟩
    ·exact hcs x (by rw[h0];exact List.mem_append_right _ (List.mem_cons_of_mem _ h))
  ·rw[h2,h4];simp[zJx]
theorem zRu (k:Dig) (mo:Nat) (B M:Nat) (cs:List Cel) (hcs:∀c∈cs,zLA c) :
  q7 Tryz.prog 26 [.av .ptr (.ptr B DbT []),.av (qD Tryz.prog 46) (KW k)] (DbH B M mo cs)
   fun r H'=>r=.av (.slice 49) (qH (getD (zJx cs) k))∧H'=DbH B M mo cs:=by
 refine q7.nodup fun hnd=>?_
 obtain⟨hBM,hbs⟩:=zOG hnd
 rcases zMp k cs with⟨h1,h2,h3,h4⟩|⟨cs1,c,cs2,h0,hk,h1,h2,h3,h4⟩
 ·refine q7.use (Hs:=[(B,dbO M mo),(M,mpO (cs.map zt1))]) (rest:=cs.map zLb) (List.Perm.refl _) (zRO k _ (zL8 cs) mo B M hBM h1) ?_
  rintro r H1 ⟨rfl,rfl⟩ _
  exact⟨_,HSub.refl _,by rw[h2];rfl,rfl⟩
 ·have hcm:c∈cs:=by rw[h0];simp
  obtain⟨hj,hcap,hS,h8⟩:=hcs c hcm
  have hp:(DbH B M mo cs).Perm ([(B,dbO M mo),(M,mpO (cs.map zt1)),(c.b,KR c.cap c.ts c.j)]++(cs1.map zLb++cs2.map zLb)):=by
   rw[DbH]
   refine List.Perm.cons _ (List.Perm.cons _ ?_)
   rw[h0,List.map_append,List.map_cons]
   exact List.perm_middle
  refine q7.use hp (zSe k _ (zL8 cs) mo B M c.b c.cap hBM c.ts hS c.j hj h1 hcap (by omega)) ?_
  rintro r H1 ⟨rfl,rfl⟩ _
  exact⟨_,HSub.of_perm hp.symm,by rw[h2];rfl,rfl⟩
theorem zR2 (mo:Nat) (h1:1≤mo) (h8:mo≤8):q7 Tryz.prog 22 [.av (.int .i64) (.i .i64 mo)] [] fun r H'=>∃B M,r=.tup [(.ptr,.ptr B DbT []),(.int .i64,.i .i64 0)]∧H'=DbH B M mo [] :=
 (DZ mo (by omega) (by omega)).mono fun r H' ⟨B,M,_,h2,h3⟩=>⟨B,M,h2,h3⟩
theorem zNh {B M mo:Nat} {cs:List Cel} (hcs:∀c∈cs,zLA c):(DbH B M mo cs).er=DbH B M mo cs:=by
 have h1:q8.er (cs.map zLb)=cs.map zLb:=by
  induction cs with
  | nil=>rfl
  | cons c r ih =>
   rw[List.map_cons]
   show (c.b,(KR c.cap c.ts c.j).er)::q8.er (r.map zLb)=_
   rw[ih fun c hc=>hcs c (List.mem_cons_of_mem _ hc),zK9 (hcs c (by simp)).1];rfl
 have h2:(mpO (cs.map zt1)).er=mpO (cs.map zt1):=by
  have:=zL8 cs
  unfold EK at this
  simp only[mpO,HObj.er_map,this]
 simp only[DbH,q8.er_cons,h1,h2]
 rfl
end Go.Proofs.YtcioeonlclpacaaGreatDoor
end
