/- A trace is kept. No condition. -/
import Derived.Test.YtognnffjdckalaaGreatDoorP11ToD4
import Derived.Test.YtognnffjdckalaaGreatDoorE1
set_option linter.unusedSimpArgs false
set_option linter.unusedVariables false
set_option linter.unusedSectionVars false
set_option maxHeartbeats 64000000
set_option maxRecDepth 100000
namespace Go.Proofs.YtognnffjdckalaaGreatDoor
open Go Go.Ab
open Classical
section
variable [Sel]
theorem VY {es:List (AV × AV)}:EK es<->∀p∈es,p.1.er=p.1/\p.2.er=p.2:=by
 unfold EK
 constructor
 ·intro h p hp
  have h1:∀x∈es,(fun p:AV × AV=>(p.1.er,p.2.er)) x=x:=by
   have:es.map (fun p:AV × AV=>(p.1.er,p.2.er))=es.map id:=by rw[h];simp
   exact fun x hx=>(List.map_inj_left.1 this) x hx
  have:=h1 p hp
  obtain⟨a,b⟩:=p
  simpa using this
 ·intro h
  conv=>rhs;rw[<-List.map_id es]
  exact List.map_congr_left fun p hp=>by obtain⟨a,b⟩:=p;have:=h _ hp;simp at this;simp[this]
theorem zef {k v:AV} (hk:k.er=k) (hv:v.er=v):∀ {es:List (AV × AV)},EK es->EK (JL k v es)
 | [],_=>by simp[JL,EK,hk,hv]
 | (x,y)::r,h=>by
  rw[VY]at h
  have hr:EK r:=VY.2 fun p hp=>h p (List.mem_cons_of_mem _ hp)
  have h0:=h (x,y) (by simp)
  have ih:=zef hk hv hr
  unfold JL
  split
  ·rw[VY];intro p hp
   rcases List.mem_cons.1 hp with rfl|hp
   ·exact⟨hk,hv⟩
   ·exact(VY.1 hr) p hp
  ·rw[VY];intro p hp
   rcases List.mem_cons.1 hp with rfl|hp
   ·exact h0
   ·exact(VY.1 ih) p hp
theorem X7 {t:qD} (h:qY t=0):TrS t:=by
 unfold qY at h
 split at h
 ·cases h
 ·exact⟨by omega,by omega⟩
theorem zne (x:qD) (bv:Nat) :
  q6 Tryz.prog 103 [.av (.slice 56) .nsl,.cst (.int .i64 0),.av (.slice 56) (.msl bv 56 0 1 1)] [(bv,DZ x)] (ziq x []) :=
 q6.args (zkt x bv) (by simp[q9,coC,AV.er])
theorem zoW (x:qD) (ts:List qD) (b bv cap:Nat) (j:List AV) (hj:JK j) (hb:b≠bv) (hcap:ts.length+j.length=cap) (hn:ts.length<=1000) :
  q6 Tryz.prog 103 [.av (.slice 56) (.msl b 56 0 ts.length cap),.cst (.int .i64 0),.av (.slice 56) (.msl bv 56 0 1 1)] [(b,k7 cap ts j),(bv,DZ x)] (ziq x ts) :=
 q6.args (zlQ x ts b bv cap j hj hb hcap hn) (by simp[q9,coC,AV.er])
abbrev zhU:Cfg:=⟨fun n=>n==3,fun n=>n==26||n==1000006||n==2000022||n==1000008⟩
theorem zoB (t:qD) (ht:TrP t) (hc:¬qY t=0) (B:Nat) :
  q6 Tryz.prog 46 [.av .ptr (.ptr B DbT []),.av (q8 Tryz.prog 56) (q5 t)] [] fun r H'=>r=.av (.int .i64) (.i .i64 (qY t))/\H'=[]:=by
 refine q6.sub (R:=fun r H'=>r=.av (.int .i64) (.i .i64 (qY t))) ?_ fun r H' h _=>⟨[],HSub.of_sub (List.nil_sublist _),h,rfl⟩
 refine zov Tryz.func46 zhU fun imm0 w0=>?_
 simp (disch:=omega) [zz]
 intro bt
 refine YE (UV t ht) rfl rfl (by simp) (by simp[q9,TV.er]) ?_
 simp (disch:=omega) [zz,hc,Tryz.f46]
def yG (mo:Nat) (t:qD) (ts:List qD):List qD:=(t::kp t ts).take mo
theorem zpP (t:qD) (ht:TrP t) (hc:qY t=0) (es:List (AV × AV)) (he:EK es) (mo:Nat) (hm:1<=mo) (hm8:mo<=8) (B M:Nat) (hBM:B≠M) (hf:yT (qK t.key) es=none) :
  q6 Tryz.prog 46 [.av .ptr (.ptr B DbT []),.av (q8 Tryz.prog 56) (q5 t)] [(B,dbO M mo),(M,mpO es)]
   fun r H'=>r=.av (.int .i64) (.i .i64 0)/\∃b' cap' j',JK j'/\1+j'.length=cap'/\H'=[(B,dbO M mo),(M,mpO (JL (qK t.key) (VD b' 1 cap') es)),(b',k7 cap' [t] j')]:=by
 have hBM':¬M=B:=fun e=>hBM e.symm
 refine q6.sub (R:=fun r H'=>r=.av (.int .i64) (.i .i64 0)/\∃b' cap' j',JK j'/\1+j'.length=cap'/\HSub [(B,dbO M mo),(M,mpO (JL (qK t.key) (VD b' 1 cap') es)),(b',k7 cap' [t] j')] H') ?_ fun r H' ⟨h1,b',cap',j',h2,h3,h4⟩ _=>⟨_,h4,h1,b',cap',j',h2,h3,rfl⟩
 refine zov Tryz.func46 zhU fun imm0 w0=>?_
 simp (disch:=omega) [zz,dbO,mpO]
 intro bt hb1 hb2
 have hb1':¬B=bt:=fun e=>hb1 e.symm
 have hb2':¬M=bt:=fun e=>hb2 e.symm
 refine YE (UV t ht) rfl rfl (by simp) (by simp[q9,TV.er]) ?_
 simp (disch:=omega) [zz,hc]
 refine j6.of [0,1,2,3,4,5,6,7,8,9] [] (by kernel_rfl) ?_
 simp (disch:=omega) [zz,hBM,hBM',hb1,hb2,hb1',hb2',zN,q5,hf]
 (repeat with_reducible refine om ?_)
 refine qM (R:=fun r H'=>r=.av (.slice 56) .nsl/\H'=[(bt,tvO t)]) [(bt,tvO t)] [(B,dbO M mo),(M,mpO es)] (List.Perm.refl _) rfl (by simp[qH]) (by simp) ?_ ?_
 ·have:=zkV t bt
  simpa[TV.er,AV.er,AV.ers,tvO,q7.er_cons,q7.er_nil,HObj.er_var]using this
 rintro r' H' ⟨rfl,rfl⟩ _
 refine⟨_,HSub.refl _,?_⟩
 simp (disch:=omega) [zz,tvO,q5,dbO,mpO]
 refine YE (PQ t (X7 hc)) rfl rfl (by simp) (by simp[q9,TV.er,q5]) ?_
 simp (disch:=omega) [zz,q5]
 intro bv hv1 hv2 hv3
 refine qM (R:=ziq t []) [(bv,DZ t)] [(bt,tvO t),(B,dbO M mo),(M,mpO es)] (List.Perm.refl _) rfl (by simp[qH]) (by simp) ?_ ?_
 ·have:=zne t bv
  simpa[TV.er,AV.er,AV.ers,DZ,q7.er_cons,q7.er_nil,HObj.er_var,AV.erk,AV.erks]using this
 rintro r' H' ⟨b',cap',j',hj',hcap',rfl,rfl⟩ hnd
 simp[q7.keys]at hnd hcap'
 obtain⟨⟨hn1,hn2,hn3⟩,_⟩:=hnd
 refine⟨[(b',k7 cap' [t] j'),(bt,tvO t),(B,dbO M mo),(M,mpO es)],HSub.refl _,?_⟩
 have hn1':¬bt=b':=fun e=>hn1 e.symm
 have hn2':¬B=b':=fun e=>hn2 e.symm
 have hn3':¬M=b':=fun e=>hn3 e.symm
 have hmin:¬(mo:Int)<1:=by omega
 simp (disch:=omega) [zz]
 refine j6.of [0,1,2,3,4,5,6,7,8,9,10,11,12,13,14,15] [] (by kernel_rfl) ?_
 simp (disch:=omega) [zz,hBM,hBM',hb1,hb2,hb1',hb2',hn1,hn2,hn3,hn1',hn2',hn3',q5,dbO,mpO,tvO,hmin]
 (repeat with_reducible refine om ?_)
 have hek:=zef (vZ t.key) (v:=VD b' 1 cap') rfl he
 unfold EK VD at hek
 have hje:AV.erks j'=j':=hj'
 simp (disch:=omega) [zz,Tryz.f46,hek,k7,trs,hje]
 refine⟨b',cap',j',hj',hcap',⟨_,List.perm_append_comm (l₁:=[_]),(List.Sublist.refl _).cons _⟩⟩
theorem zpW (t:qD) (ht:TrP t) (hc:qY t=0) (es:List (AV × AV)) (he:EK es) (mo:Nat) (hm:1<=mo) (hm8:mo<=8) (B M b cap:Nat) (hBM:B≠M) (hbB:b≠B) (hbM:b≠M) (ts:List qD) (hts:∀x∈ts,TrS x) (j:List AV) (hj:JK j)
  (hf:yT (qK t.key) es=some (VD b ts.length cap)) (hcap:ts.length+j.length=cap) (hn:ts.length<=100) :
  q6 Tryz.prog 46 [.av .ptr (.ptr B DbT []),.av (q8 Tryz.prog 56) (q5 t)] [(B,dbO M mo),(M,mpO es),(b,k7 cap ts j)]
   fun r H'=>r=.av (.int .i64) (.i .i64 0)/\∃b' cap' j',JK j'/\(yG mo t ts).length+j'.length=cap'/\H'=[(B,dbO M mo),(M,mpO (JL (qK t.key) (VD b' (yG mo t ts).length cap') es)),(b',k7 cap' (yG mo t ts) j')]:=by
 have hBM':¬M=B:=fun e=>hBM e.symm
 have hbB':¬B=b:=fun e=>hbB e.symm
 have hbM':¬M=b:=fun e=>hbM e.symm
 refine q6.sub (R:=fun r H'=>r=.av (.int .i64) (.i .i64 0)/\∃b' cap' j',JK j'/\(yG mo t ts).length+j'.length=cap'/\HSub [(B,dbO M mo),(M,mpO (JL (qK t.key) (VD b' (yG mo t ts).length cap') es)),(b',k7 cap' (yG mo t ts) j')] H') ?_ fun r H' ⟨h1,b',cap',j',h2,h3,h4⟩ _=>⟨_,h4,h1,b',cap',j',h2,h3,rfl⟩
 refine zov Tryz.func46 zhU fun imm0 w0=>?_
 simp (disch:=omega) [zz,dbO,mpO]
 intro bt hb1 hb2 hb3
 have hb1':¬B=bt:=fun e=>hb1 e.symm
 have hb2':¬M=bt:=fun e=>hb2 e.symm
 have hb3':¬b=bt:=fun e=>hb3 e.symm
 refine YE (UV t ht) rfl rfl (by simp) (by simp[q9,TV.er]) ?_
 simp (disch:=omega) [zz,hc]
 refine j6.of [0,1,2,3,4,5,6,7,8,9] [] (by kernel_rfl) ?_
 simp (disch:=omega) [zz,hBM,hBM',hb1,hb2,hb3,hb1',hb2',hb3',hbB,hbM,hbB',hbM',zN,q5,hf,VD]
 (repeat with_reducible refine om ?_)
 refine qM (R:=fun r H'=>∃j',JK j'/\(kp t ts).length+j'.length=cap/\r=.av (.slice 56) (.msl b 56 0 (kp t ts).length cap)/\H'=[(b,k7 cap (kp t ts) j'),(bt,tvO t)]) [(b,k7 cap ts j),(bt,tvO t)] [(B,dbO M mo),(M,mpO es)] (List.perm_append_comm (l₁:=[(bt,tvO t),(B,dbO M mo),(M,mpO es)]) |>.trans (List.Perm.cons _ (List.Perm.refl _))) rfl (by simp[qH]) (by simp) ?_ ?_
 ·have:=zog ts t (fun x hx=>(hts x hx).ok) (X7 hc).ok b bt cap j hj hb3' hcap (by omega)
  simpa[TV.er,AV.er,AV.ers,tvO,q7.er_cons,q7.er_nil,HObj.er_var,YW hj,TrT]using this
 rintro r' H' ⟨j1,hj1,hcap1,rfl,rfl⟩ _
 refine⟨_,HSub.refl _,?_⟩
 simp (disch:=omega) [zz,tvO,q5,dbO,mpO,hb1,hb2,hb3,hb1',hb2',hb3',k7]
 refine YE (PQ t (X7 hc)) rfl rfl (by simp) (by simp[q9,TV.er,q5]) ?_
 simp (disch:=omega) [zz,q5]
 intro bv hv0 hv1 hv2 hv3
 have hv0':¬b=bv:=fun e=>hv0 e.symm
 have hkl:(kp t ts).length<=100:=Nat.le_trans (zqH t ts) hn
 refine qM (R:=ziq t (kp t ts)) [(b,k7 cap (kp t ts) j1),(bv,DZ t)] [(bt,tvO t),(B,dbO M mo),(M,mpO es)] (List.Perm.swap _ _ _) rfl (by simp[qH]) (by simp) ?_ ?_
 ·have:=zoW t (kp t ts) b bv cap j1 hj1 hv0' hcap1 (by omega)
  simpa[TV.er,AV.er,AV.ers,DZ,q7.er_cons,q7.er_nil,HObj.er_var,AV.erk,AV.erks,YW hj1]using this
 rintro r' H' ⟨b',cap',j',hj',hcap',rfl,rfl⟩ hnd
 simp[q7.keys]at hnd
 obtain⟨⟨hn1,hn2,hn3⟩,_⟩:=hnd
 refine⟨[(b',k7 cap' (t::kp t ts) j'),(bt,tvO t),(B,dbO M mo),(M,mpO es)],HSub.refl _,?_⟩
 have hn1':¬bt=b':=fun e=>hn1 e.symm
 have hn2':¬B=b':=fun e=>hn2 e.symm
 have hn3':¬M=b':=fun e=>hn3 e.symm
 have hts':trs (t::kp t ts)++j'=trs (yG mo t ts)++(trs ((t::kp t ts).drop mo)++j'):=by
  rw[<-List.append_assoc,<-yM];unfold yG;rw[List.take_append_drop]
 have hlen:(yG mo t ts).length+(trs ((t::kp t ts).drop mo)++j').length=cap':=by
  have:=congrArg List.length hts'
  simp only[List.length_append,XN,List.length_cons]at this |-
  omega
 have hjj:JK (trs ((t::kp t ts).drop mo)++j'):=(JK.trs _).app hj'
 have hal:(yG mo t ts).length=if mo<(kp t ts).length+1 then mo else(kp t ts).length+1:=by
  unfold yG;rw[List.length_take,List.length_cons];split<;>omega
 have hek:=zef (vZ t.key) (v:=VD b' (yG mo t ts).length cap') rfl he
 by_cases hmin:mo<(kp t ts).length+1
 ·have hmin':(mo:Int)<(kp t ts).length+1:=by omega
  rw[if_pos hmin]at hal
  unfold EK VD at hek
  rw[hal]at hek
  simp (disch:=omega) [zz]
  refine j6.of [0,1,2,3,4,5,6,7,8,9,10,11,12,13,14,15] [] (by kernel_rfl) ?_
  simp (disch:=omega) [zz,hBM,hBM',hb1,hb2,hb1',hb2',hn1,hn2,hn3,hn1',hn2',hn3',q5,dbO,mpO,tvO,hmin']
  (repeat with_reducible refine om ?_)
  have hje:=(JK.trs (yG mo t ts)).app hjj
  rw[<-hts']at hje
  unfold JK at hje
  simp (disch:=omega) [zz,Tryz.f46,hek,k7,hje]
  refine⟨b',cap',_,hjj,hlen,⟨_,List.perm_append_comm (l₁:=[_]),?_⟩⟩
  rw[hal,<-hts']
  exact(List.Sublist.refl _).cons _
 ·have hmin':¬(mo:Int)<(kp t ts).length+1:=by omega
  rw[if_neg hmin]at hal
  unfold EK VD at hek
  rw[hal]at hek
  simp (disch:=omega) [zz]
  refine j6.of [0,1,2,3,4,5,6,7,8,9,10,11,12,13,14,15] [] (by kernel_rfl) ?_
  simp (disch:=omega) [zz,hBM,hBM',hb1,hb2,hb1',hb2',hn1,hn2,hn3,hn1',hn2',hn3',q5,dbO,mpO,tvO,hmin']
  (repeat with_reducible refine om ?_)
  have hje:=(JK.trs (yG mo t ts)).app hjj
  rw[<-hts']at hje
  unfold JK at hje
  simp (disch:=omega) [zz,Tryz.f46,hek,k7,hje]
  refine⟨b',cap',_,hjj,hlen,⟨_,List.perm_append_comm (l₁:=[_]),?_⟩⟩
  rw[hal,<-hts']
  exact(List.Sublist.refl _).cons _
abbrev DbL:=List (Dig × List qD)
def getD (L:DbL) (k:Dig):List qD:=match L.find? (fun p=>decide (p.1=k))with
 | some p=>p.2
 | none=>[]
def Q5 (k:Dig) (v:List qD):DbL->DbL
 | []=>[(k,v)]
 | (k',v')::r=>if k'=k then(k,v)::r else(k',v')::Q5 k v r
noncomputable def kU (mo:Nat) (L:DbL) (t:qD):DbL:=if qY t=0 then Q5 t.key (yG mo t (getD L t.key)) L else L
structure Cel where
 key:Dig
 b:Nat
 cap:Nat
 ts:List qD
 j:List AV
def y6 (c:Cel):AV × AV:=(qK c.key,VD c.b c.ts.length c.cap)
noncomputable def g6 (c:Cel):Nat × HObj:=(c.b,k7 c.cap c.ts c.j)
def dN (c:Cel):Prop:=JK c.j/\c.ts.length+c.j.length=c.cap/\(∀x∈c.ts,TrS x)/\c.ts.length<=8
def Z4 (cs:List Cel):DbL:=cs.map fun c=>(c.key,c.ts)
noncomputable def DbH (B M mo:Nat) (cs:List Cel):q7:=(B,dbO M mo)::(M,mpO (cs.map y6))::cs.map g6
theorem VX (cs:List Cel):EK (cs.map y6):=by
 rw[VY]
 intro p hp
 obtain⟨c,_,rfl⟩:=List.mem_map.1 hp
 exact⟨vZ _,rfl⟩
theorem za8 (k:Dig):∀cs:List Cel,
  (yT (qK k) (cs.map y6)=none/\getD (Z4 cs) k=[]/\(∀v,JL (qK k) v (cs.map y6)=cs.map y6++[(qK k,v)])/\∀v,Q5 k v (Z4 cs)=Z4 cs++[(k,v)])\/
  ∃cs1 c cs2,cs=cs1++c::cs2/\c.key=k/\yT (qK k) (cs.map y6)=some (VD c.b c.ts.length c.cap)/\getD (Z4 cs) k=c.ts/\(∀v,JL (qK k) v (cs.map y6)=cs1.map y6++(qK k,v)::cs2.map y6)/\∀v,Q5 k v (Z4 cs)=Z4 cs1++(k,v)::Z4 cs2
 | []=>.inl ⟨rfl,rfl,fun v=>rfl,fun v=>rfl⟩
 | c::cs=>by
  by_cases h:c.key=k
  ·right
   refine⟨[],c,cs,rfl,h,?_,?_,fun v=>?_,fun v=>?_⟩
   ·simp[yT,y6,h]
   ·simp[getD,Z4,h]
   ·simp[JL,y6,h]
   ·simp[Q5,Z4,h]
  ·have h':¬qK c.key=qK k:=fun e=>h (J4.1 e)
   rcases za8 k cs with⟨h1,h2,h3,h4⟩|⟨cs1,c',cs2,h0,hk,h1,h2,h3,h4⟩
   ·left
    refine⟨?_,?_,fun v=>?_,fun v=>?_⟩
    ·simp only[List.map_cons,y6,yT,h',if_false];exact h1
    ·simp only[getD,Z4,List.map_cons,List.find?_cons,h,decide_false]at h2 |-;exact h2
    ·simp only[List.map_cons,y6,JL,h',if_false,List.cons_append]
     rw[h3 v]
    ·simp only[Z4,List.map_cons,Q5,h,if_false,List.cons_append]
     rw[show cs.map (fun c=>(c.key,c.ts))=Z4 cs from rfl,h4 v]
   ·right
    refine⟨c::cs1,c',cs2,by rw[h0];rfl,hk,?_,?_,fun v=>?_,fun v=>?_⟩
    ·simp only[List.map_cons,y6,yT,h',if_false];exact h1
    ·simp only[getD,Z4,List.map_cons,List.find?_cons,h,decide_false]at h2 |-;exact h2
    ·simp only[List.map_cons,y6,JL,h',if_false,List.cons_append]
     rw[h3 v]
    ·simp only[Z4,List.map_cons,Q5,h,if_false,List.cons_append]
     rw[show cs.map (fun c=>(c.key,c.ts))=Z4 cs from rfl,h4 v]
     rfl
theorem zqF {mo:Nat} {t:qD} {ts:List qD} (ht:TrS t) (hts:∀x∈ts,TrS x):∀x∈yG mo t ts,TrS x:=by
 intro x hx
 have:=List.mem_of_mem_take hx
 rcases List.mem_cons.1 this with rfl|h
 ·exact ht
 ·exact hts x (List.mem_filter.1 h).1
theorem za7 (mo:Nat) (t:qD) (ts:List qD):(yG mo t ts).length<=mo:=by unfold yG;rw[List.length_take];omega
theorem zio {B M mo:Nat} {cs:List Cel} (h:(DbH B M mo cs).keys.Nodup):B≠M/\∀c∈cs,c.b≠B/\c.b≠M:=by
 have h1:(B::M::cs.map (·.b)).Nodup:=by
  have e:(DbH B M mo cs).keys=B::M::cs.map (·.b):=by simp[DbH,q7.keys,g6,Function.comp_def]
  rw[e]at h;exact h
 simp only[List.nodup_cons,List.mem_cons,not_or]at h1
 refine⟨h1.1.1,fun c hc=>⟨fun e=>h1.1.2 (e▸List.mem_map.2 ⟨c,hc,rfl⟩),fun e=>h1.2.1 (e▸List.mem_map.2 ⟨c,hc,rfl⟩)⟩⟩
theorem zfn (t:qD) (ht:TrP t) (mo:Nat) (hm:1<=mo) (hm8:mo<=8) (B M:Nat) (cs:List Cel) (hcs:∀c∈cs,dN c) :
  q6 Tryz.prog 46 [.av .ptr (.ptr B DbT []),.av (q8 Tryz.prog 56) (q5 t)] (DbH B M mo cs)
   fun r H'=>r=.av (.int .i64) (.i .i64 (qY t))/\∃cs',(∀c∈cs',dN c)/\Z4 cs'=kU mo (Z4 cs) t/\H'=DbH B M mo cs':=by
 refine q6.nodup fun hnd=>?_
 obtain⟨hBM,hbs⟩:=zio hnd
 by_cases hc:qY t=0
 rotate_left
 ·refine q6.use (Hs:=[]) (rest:=DbH B M mo cs) (List.Perm.refl _) (zoB t ht hc B) ?_
  rintro r H1 ⟨rfl,rfl⟩ _
  exact⟨_,HSub.refl _,rfl,cs,hcs,by simp[kU,hc],rfl⟩
 have hadd:kU mo (Z4 cs) t=Q5 t.key (yG mo t (getD (Z4 cs) t.key)) (Z4 cs):=by simp[kU,hc]
 rw[hadd,hc]
 rcases za8 t.key cs with⟨h1,h2,h3,h4⟩|⟨cs1,c,cs2,h0,hk,h1,h2,h3,h4⟩
 ·refine q6.use (Hs:=[(B,dbO M mo),(M,mpO (cs.map y6))]) (rest:=cs.map g6) (List.Perm.refl _) (zpP t ht hc _ (VX cs) mo hm hm8 B M hBM h1) ?_
  rintro r H1 ⟨rfl,b',cap',j',hj,hcap,rfl⟩ _
  have ha1:yG mo t []=[t]:=by
   obtain⟨q,rfl⟩:∃q,mo=q+1:=⟨mo-1,by omega⟩
   simp[yG,kp]
  refine⟨DbH B M mo (cs++[⟨t.key,b',cap',[t],j'⟩]),HSub.of_perm ?_,rfl,cs++[⟨t.key,b',cap',[t],j'⟩],?_,?_,rfl⟩
  ·rw[h3]
   simp only[DbH,List.map_append,List.map_cons,List.map_nil]
   exact List.Perm.cons _ (List.Perm.cons _ (List.perm_append_comm (l₁:=[_])))
  ·intro c hcc
   rcases List.mem_append.1 hcc with h|h
   ·exact hcs c h
   ·simp only[List.mem_singleton]at h;subst h
    exact⟨hj,hcap,fun x hx=>by simp only[List.mem_singleton]at hx;subst hx;exact X7 hc,by simp⟩
  ·rw[h2,ha1,h4];simp[Z4]
 ·have hcm:c∈cs:=by rw[h0];simp
  obtain⟨hj,hcap,hS,h8⟩:=hcs c hcm
  obtain⟨hb1,hb2⟩:=hbs c hcm
  refine q6.use (Hs:=[(B,dbO M mo),(M,mpO (cs.map y6)),(c.b,k7 c.cap c.ts c.j)]) (rest:=cs1.map g6++cs2.map g6) ?_ (zpW t ht hc _ (VX cs) mo hm hm8 B M c.b c.cap hBM hb1 hb2 c.ts hS c.j hj h1 hcap (by omega)) ?_
  ·rw[DbH]
   refine List.Perm.cons _ (List.Perm.cons _ ?_)
   rw[h0,List.map_append,List.map_cons]
   exact List.perm_middle
  rintro r H1 ⟨rfl,b',cap',j',hj',hcap',rfl⟩ _
  refine⟨DbH B M mo (cs1++⟨t.key,b',cap',yG mo t c.ts,j'⟩::cs2),HSub.of_perm ?_,rfl,cs1++⟨t.key,b',cap',yG mo t c.ts,j'⟩::cs2,?_,?_,rfl⟩
  ·rw[h3]
   simp only[DbH,List.map_append,List.map_cons]
   exact List.Perm.cons _ (List.Perm.cons _ (List.perm_middle (l₁:=cs1.map g6) (l₂:=cs2.map g6) (a:=(b',k7 cap' (yG mo t c.ts) j'))).symm)
  ·intro x hx
   rcases List.mem_append.1 hx with h|h
   ·exact hcs x (by rw[h0];exact List.mem_append_left _ h)
   ·rcases List.mem_cons.1 h with rfl|h
    ·exact⟨hj',hcap',zqF (X7 hc) hS,Nat.le_trans (za7 _ _ _) hm8⟩
    ·exact hcs x (by rw[h0];exact List.mem_append_right _ (List.mem_cons_of_mem _ h))
  ·rw[h2,h4];simp[Z4]
theorem zoR (k:Dig) (mo:Nat) (B M:Nat) (cs:List Cel) (hcs:∀c∈cs,dN c) :
  q6 Tryz.prog 65 [.av .ptr (.ptr B DbT []),.av (q8 Tryz.prog 53) (qK k)] (DbH B M mo cs)
   fun r H'=>r=.av (.slice 56) (qU (getD (Z4 cs) k))/\H'=DbH B M mo cs:=by
 refine q6.nodup fun hnd=>?_
 obtain⟨hBM,hbs⟩:=zio hnd
 rcases za8 k cs with⟨h1,h2,h3,h4⟩|⟨cs1,c,cs2,h0,hk,h1,h2,h3,h4⟩
 ·refine q6.use (Hs:=[(B,dbO M mo),(M,mpO (cs.map y6))]) (rest:=cs.map g6) (List.Perm.refl _) (zoo k _ (VX cs) mo B M hBM h1) ?_
  rintro r H1 ⟨rfl,rfl⟩ _
  exact⟨_,HSub.refl _,by rw[h2];rfl,rfl⟩
 ·have hcm:c∈cs:=by rw[h0];simp
  obtain⟨hj,hcap,hS,h8⟩:=hcs c hcm
  have hp:(DbH B M mo cs).Perm ([(B,dbO M mo),(M,mpO (cs.map y6)),(c.b,k7 c.cap c.ts c.j)]++(cs1.map g6++cs2.map g6)):=by
   rw[DbH]
   refine List.Perm.cons _ (List.Perm.cons _ ?_)
   rw[h0,List.map_append,List.map_cons]
   exact List.perm_middle
  refine q6.use hp (zoA k _ (VX cs) mo B M c.b c.cap hBM c.ts hS c.j hj h1 hcap (by omega)) ?_
  rintro r H1 ⟨rfl,rfl⟩ _
  exact⟨_,HSub.of_perm hp.symm,by rw[h2];rfl,rfl⟩
theorem znC (mo:Nat) (h1:1<=mo) (h8:mo<=8):q6 Tryz.prog 26 [.av (.int .i64) (.i .i64 mo)] [] fun r H'=>∃B M,r=.tup [(.ptr,.ptr B DbT []),(.int .i64,.i .i64 0)]/\H'=DbH B M mo [] :=
 (zri mo (by omega) (by omega)).mono fun r H' ⟨B,M,_,h2,h3⟩=>⟨B,M,h2,h3⟩
theorem zdY {B M mo:Nat} {cs:List Cel} (hcs:∀c∈cs,dN c):(DbH B M mo cs).er=DbH B M mo cs:=by
 have h1:q7.er (cs.map g6)=cs.map g6:=by
  induction cs with
  | nil=>rfl
  | cons c r ih =>
   rw[List.map_cons]
   show (c.b,(k7 c.cap c.ts c.j).er)::q7.er (r.map g6)=_
   rw[ih fun c hc=>hcs c (List.mem_cons_of_mem _ hc),YW (hcs c (by simp)).1];rfl
 have h2:(mpO (cs.map y6)).er=mpO (cs.map y6):=by
  have:=VX cs
  unfold EK at this
  simp only[mpO,HObj.er_map,this]
 simp only[DbH,q7.er_cons,h1,h2]
 rfl
def QU (en:Array MapEntry) (ids:List Nat):Array Nat:=(ids.map fun i=>(en[i]?.map (·.born)).getD 0).toArray
theorem K6 {en:Array MapEntry} {ck:Nat} (hst:Q4 en.toList ck) {ids:List Nat} (hids:∀i∈ids,i<en.size) {i:Nat} {me:MapEntry} (hi:en[i]?=some me):me.born∈QU en ids<->i∈ids:=by
 unfold QU
 rw[List.mem_toArray,List.mem_map]
 constructor
 ·rintro⟨j,hj,e⟩
  have hjs:=hids j hj
  rw[Array.getElem?_eq_getElem hjs]at e
  simp only[Option.map_some,Option.getD_some]at e
  obtain⟨his,rfl⟩:=Array.getElem?_eq_some_iff.1 hi
  have hnd:=hst.2
  have h1:(en.toList.map (·.born))[j]'(by simpa using hjs)=(en.toList.map (·.born))[i]'(by simpa using his):=by simpa using e
  have:=(List.getElem_inj hnd).1 h1
  rw[<-this];exact hj
 ·intro h
  exact⟨i,h,by rw[hi];rfl⟩
theorem U8 (en:Array MapEntry) (ids:List Nat) {i:Nat} {me:MapEntry} (hi:en[i]?=some me):(QU en ids).push me.born=QU en (ids++[i]):=by
 unfold QU
 apply Array.toList_inj.1
 simp[hi]
def y8 (ks:List (List UInt8)) (ids:List Nat):List (List UInt8):=ids.map fun i=>(ks[i]?).getD []
theorem vC {ks:List (List UInt8)} {ids:List Nat} (hn:ids.Nodup) (hlt:∀i∈ids,i<ks.length) (hall:∀i,i<ks.length->i∈ids):(y8 ks ids).Perm ks:=by
 have h1:ids.Perm (List.range ks.length):=by
  rw[List.perm_ext_iff_of_nodup hn List.nodup_range]
  intro i
  rw[List.mem_range]
  exact⟨hlt i,hall i⟩
 have h2:(List.range ks.length).map (fun i=>(ks[i]?).getD [])=ks:=by
  refine List.ext_getElem (by simp) fun t h1 h2=>?_
  simp only[List.getElem_map,List.getElem_range]
  rw[List.getElem?_eq_getElem h2];rfl
 have:=h1.map (fun i=>(ks[i]?).getD ([]:Dig))
 rw[h2]at this
 exact this
theorem xX:∀(n:Nat) (l:List Nat),l.Nodup->(∀i∈l,i<n)->l.length<=n
 | 0,l,_,h=>by
  cases l with
  | nil=>simp
  | cons x r=>exact absurd (h x (by simp)) (Nat.not_lt_zero _)
 | n+1,l,hn,h=>by
  by_cases hm:n∈l
  ·have:=xX n (l.erase n) (hn.erase n) (fun i hi=>by
    have h1:=(List.Nodup.mem_erase_iff hn).1 hi
    have:=h i h1.2
    have:=h1.1
    omega)
   rw[List.length_erase_of_mem hm]at this
   omega
  ·have:=xX n l hn (fun i hi=>by
    have h1:=h i hi
    have:i≠n:=fun e=>hm (e▸hi)
    omega)
   omega
abbrev DgS:TyD:=.slice 53
noncomputable def xN (cap:Nat) (ks:List Dig) (j:List AV):HObj:=.var (.arr cap 53) (.agg (ks.map qK++j))
def kG (y b2:Nat) (done:List Dig) (H:q7):Prop :=
 (done=[]/\H=[(b2,.var DgS .nsl)])\/∃b cap j,JK j/\b≠b2/\b≠y/\done.length+j.length=cap/\H=[(b2,.var DgS (.msl b 53 0 done.length cap)),(b,xN cap done j)]
def kR (ks:List Dig) (rest:q7) (r:TV) (H':q7):Prop :=
 ∃done,done.Perm ks/\((done=[]/\r=.av DgS .nsl/\H'=rest)\/∃b cap j,JK j/\done.length+j.length=cap/\r=.av DgS (.msl b 53 0 done.length cap)/\H'=(b,xN cap done j)::rest)
theorem vW {cap:Nat} {ks:List Dig} {j:List AV} (h:JK j):(xN cap ks j).er=xN cap ks j:=by
 simp only[xN,HObj.er_var,AV.erk,K8]
 rw[show AV.erks j=j from h]
 congr 3
 simp[AV.erks_eq,Function.comp_def]
theorem zse {y b2:Nat} {done:List Dig} {H:q7} (h:kG y b2 done H):H.er=H:=by
 rcases h with⟨_,rfl⟩|⟨b,cap,j,hj,_,_,_,rfl⟩
 ·rfl
 ·rw[q7.er_cons,q7.er_cons,vW hj];rfl
def zD:AV:=.agg (List.replicate 32 (.i .u8 0))
theorem ziV (n:Nat):JK (List.replicate n zD):=by
 unfold JK;rw[AV.erks_eq,List.map_replicate];congr 1
theorem ziQ (l:List Dig):JK (l.map qK):=by
 unfold JK;simp[AV.erks_eq,Function.comp_def]
def znp (g c:Nat) (T:TyD) (HS:q7) (ks:List Dig):Prop:=qL Tryz.prog g=true/\HS.er=HS/\∀(G:List Dig->q7->Prop) (y:Nat),(∀done H,G done H->H.er=H)->
  (∀done (k:Dig) H,done.length<ks.length->G done H->YC Tryz.prog y [.av (.arr 32 5) (qK k)] H fun r H'=>r=.av .bool (.b true)/\G (done++[k]) H')->
  ∀H,G [] H->q6 Tryz.prog g [.av .func (.yl y),.av .ptr (.ptr c T [])] (HS++H) fun r H'=>r=.tup []/\∃done H1,done.Perm ks/\G done H1/\H'=HS++H1
abbrev zrm:Cfg:=⟨fun n=>n==2,fun _=>false⟩
theorem zdC {g c:Nat} {T:TyD} {HS:q7} {ks:List Dig} (hs:znp g c T HS ks) (hlen:ks.length<=1000000) :
  q6 Tryz.prog 186 [.av DgS .nsl,.av .func (.fn g [.ptr c T []])] HS (kR ks HS):=by
 obtain⟨hfo,hse,hsf⟩:=hs
 refine q6.sub (R:=fun r H'=>∃H2,Ab.HSub H2 H'/\kR ks HS r H2) ?_ fun r H' ⟨H2,h1,h2⟩ _=>⟨H2,h1,h2⟩
 refine zov Tryz.func186 zrm fun imm0 w0=>?_
 simp (disch:=omega) [zz,-List.reduceReplicate]
 intro b2 hb2
 refine AT.range (gf:=g) rfl rfl rfl (by simp[hfo]) ?_
 intro y D r i0 w1 hy hrec hready hpend hpar has hbo
 simp at hy
 obtain⟨hy2,hyS⟩:=hy
 have hy2':¬b2=y:=fun e=>hy2 e.symm
 refine⟨HS++[(y,.lrec r i0 w1),(b2,.var DgS .nsl)],[],fun t H'=>t=.tup []/\∃done H1,done.Perm ks/\(∃H2,H1=(y,.lrec r i0 w1)::H2/\kG y b2 done H2)/\H'=HS++H1,?_,?_,?_⟩
 ·rw[List.append_nil]
  exact List.perm_append_comm (l₁:=[_,_])
 ·rw[q7.er_app,hse]
  refine hsf (fun done H=>∃H2,H=(y,.lrec r i0 w1)::H2/\kG y b2 done H2) y ?_ ?_ _ ⟨_,rfl,.inl ⟨rfl,rfl⟩⟩
  ·rintro done H ⟨H2,rfl,hg⟩
   rw[q7.er_cons,zse hg];rfl
  ·rintro done k H hdl ⟨H2,rfl,hg⟩
   have hrd:=YC.of_round (l:=y) hrec hready (args:=[.av (.arr 32 5) (qK k)]) (H:=H2) (R:=fun rr H'=>rr=.av .bool (.b true)/\∃H3,Ab.HSub ((y,.lrec r i0 w1)::H3) H'/\kG y b2 (done++[k]) H3) (by rw[hpar];rfl) (by rw[hpar];simp) (fun imm w=>?_)
   ·exact zhA hrd fun rr H' ⟨e1,H3,e2,e3⟩ _=>⟨_,e2,e1,H3,rfl,e3⟩
   rw[has,hbo,hpar]
   refine zrd zrm ?_
   simp (disch:=omega) [zz,-List.reduceReplicate,J7,Z7,DJ]
   refine zrd zrm ?_
   have hrl:∀(p:Array Nat) (a b:Code),p=r.params->a=r.assign->b=r.body->({ state:=.ready,pending:=none,fn:=r.fn,tmps:=r.tmps,params:=p,assign:=a,body:=b,defers:=r.defers }:Loop)=r:=by
    rintro _ _ _ rfl rfl rfl;exact vN hready hpend
   have her:∀r',(HObj.lrec r' i0 w1).er=HObj.lrec r' i0 w1:=fun _=>rfl
   rcases hg with⟨rfl,rfl⟩|⟨b,cap,j,hj,hbb,hby,hcap,rfl⟩
   ·simp (disch:=omega) [zz,-List.reduceReplicate,hy2,hy2']
    intro b' cap' hb1 hb2 hc
    have hb1':¬y=b':=fun e=>hb1 e.symm
    have hb2':¬b2=b':=fun e=>hb2 e.symm
    simp (disch:=omega) [zz,-List.reduceReplicate,hy2,hy2',hb1,hb2,hb1',hb2',YS,VB]
    rw[her,hrl _ _ _ hpar.symm has.symm hbo.symm]
    refine⟨[(b2,.var DgS (.msl b' 53 0 1 cap')),(b',xN cap' [k] (List.replicate (cap'-1) zD))],HSub.of_perm ?_,.inr ⟨b',cap',_,ziV _,hb2,hb1,by simp;omega,rfl⟩⟩
    have:=ziV (cap'-1)
    unfold JK zD at this
    rw[this]
    exact List.perm_append_comm (l₁:=[_]) (l₂:=[_,_])
   ·have hbb':¬b2=b:=fun e=>hbb e.symm
    have hby':¬y=b:=fun e=>hby e.symm
    simp (disch:=omega) [zz,-List.reduceReplicate,hy2,hy2',hbb,hbb',hby,hby',xN]
    refine⟨by omega,⟨by omega,by omega⟩,fun hc=>?_,fun hc b' cap' hb1 hb2 hb3 hc'=>?_⟩
    ·simp (disch:=omega) [zz,-List.reduceReplicate,hy2,hy2',hbb,hbb',hby,hby',YS,VB]
     rw[her,hrl _ _ _ hpar.symm has.symm hbo.symm]
     have h2:(done.map qK++j).take done.length++qK k::(done.map qK++j).drop (done.length+1)=(done++[k]).map qK++j.drop 1:=by
      have e1:(done.map qK++j).take done.length=done.map qK:=by rw[List.take_append_of_le_length (by simp)];exact List.take_of_length_le (by simp)
      have e2:(done.map qK++j).drop (done.length+1)=j.drop 1:=by
       rw[List.drop_append,List.drop_of_length_le (by simp)];simp
      rw[e1,e2];simp
     have h3:=(ziQ (done++[k])).app (hj.drop 1)
     unfold JK at h3
     rw[h2,h3]
     refine⟨[(b2,.var DgS (.msl b 53 0 (done.length+1) cap)),(b,xN cap (done++[k]) (j.drop 1))],HSub.refl _,.inr ⟨b,cap,_,hj.drop 1,hbb,hby,by simp;omega,by simp⟩⟩
    ·have hb1':¬y=b':=fun e=>hb1 e.symm
     have hb2':¬b2=b':=fun e=>hb2 e.symm
     have hb3':¬b=b':=fun e=>hb3 e.symm
     simp (disch:=omega) [zz,-List.reduceReplicate,hy2,hy2',hbb,hbb',hby,hby',hb1,hb2,hb3,hb1',hb2',hb3',YS,VB]
     rw[her,hrl _ _ _ hpar.symm has.symm hbo.symm]
     have h2:(done.map qK++j).take done.length++qK k::List.replicate (cap'-(done.length+1)) zD=(done++[k]).map qK++List.replicate (cap'-(done.length+1)) zD:=by
      have e1:(done.map qK++j).take done.length=done.map qK:=by rw[List.take_append_of_le_length (by simp)];exact List.take_of_length_le (by simp)
      rw[e1];simp
     have h3:=(ziQ (done++[k])).app (ziV (cap'-(done.length+1)))
     unfold JK at h3
     unfold zD at h2 h3
     rw[h2,h3]
     refine⟨[(b2,.var DgS (.msl b' 53 0 (done.length+1) cap')),(b',xN cap' (done++[k]) (List.replicate (cap'-(done.length+1)) zD))],⟨_,List.perm_append_comm (l₁:=[_]) (l₂:=[_,_,_]),?_⟩,.inr ⟨b',cap',List.replicate (cap'-(done.length+1)) zD,ziV _,hb2,hb1,by simp;omega,by simp⟩⟩
     exact((((List.nil_sublist _).cons_cons _).cons _).cons_cons _).cons_cons _
 ·rintro t H' ⟨rfl,done,H1,hp,⟨H2,rfl,hg⟩,rfl⟩ hnd
  refine⟨r,H2++HS,HSub.of_perm (by rw[List.append_nil];exact List.perm_append_comm (l₂:=_::_)),by rw[hready];simp,?_⟩
  rw[hpend]
  rcases hg with⟨rfl,rfl⟩|⟨b,cap,j,hj,hbb,hby,hcap,rfl⟩
  ·simp (disch:=omega) [zz,-List.reduceReplicate,dQ,hse,Tryz.f186]
   exact⟨HS,HSub.of_sub ((List.Sublist.refl _).cons _),[],hp,.inl ⟨rfl,rfl,rfl⟩⟩
  ·have hkr:=vW (cap:=cap) (ks:=done) hj
   simp (disch:=omega) [zz,-List.reduceReplicate,dQ,hse,hkr,Tryz.f186]
   exact⟨(b,xN cap done j)::HS,HSub.of_sub ((List.Sublist.refl _).cons _),done,hp,.inr ⟨b,cap,j,hj,hcap,rfl,rfl⟩⟩
theorem zhw {g c:Nat} {T:TyD} {HS:q7} {ks:List Dig} (hs:znp g c T HS ks) (hlen:ks.length<=1000000) :
  q6 Tryz.prog 165 [.av .func (.fn g [.ptr c T []])] HS (kR ks HS):=by
 have hse:=hs.2.1
 refine zov Tryz.func165 cf0 fun imm0 w0=>?_
 simp (disch:=omega) [zz,-List.reduceReplicate]
 refine zF (R:=kR ks HS) rfl (by simp[qH]) (by simp) ?_ ?_
 ·have:=q6.argNil (zdC hs hlen)
  simpa[TV.er,AV.er,AV.ers,hse]using this
 rintro r' H' ⟨done,hp,⟨rfl,rfl,rfl⟩|⟨b,cap,j,hj,hcap,rfl,rfl⟩⟩
 ·simp (disch:=omega) [zz,-List.reduceReplicate,hse,Tryz.f165]
  exact⟨[],hp,.inl ⟨rfl,rfl,rfl⟩⟩
 ·have hkr:=vW (cap:=cap) (ks:=done) hj
  simp (disch:=omega) [zz,-List.reduceReplicate,hse,hkr,Tryz.f165]
  exact⟨done,hp,.inr ⟨b,cap,j,hj,hcap,rfl,rfl⟩⟩
abbrev MpT:TyD:=.map 53 36
noncomputable def mbO (M:Nat):HObj:=.var MpT (.map (some M))
abbrev zto:Cfg:=⟨fun n=>n==1,fun _=>false⟩
theorem znx (M:Nat):q6 Tryz.prog 121 [.av MpT (.map (some M))] [] fun r H'=>∃c,r=.av .func (.fn 170 [.ptr c MpT []])/\H'=[(c,mbO M)]:=by
 refine zov Tryz.func121 zto fun imm0 w0=>?_
 simp (disch:=omega) [zz]
 intro c
 simp (disch:=omega) [zz,Tryz.f121,mbO,AV.ers]
theorem zku {G:List Dig->q7->Prop} (y c M:Nat) (hcM:c≠M) (cs:List Cel) (en:Array MapEntry) (ck:Nat) (i0:Nat->Nat) (w1:World) (hop:xS Tryz.prog 53 36 (cs.map y6) en ck i0 w1)
  (hGe:∀done H,G done H->H.er=H)
  (hY:∀done (k:Dig) H,k∈cs.map (·.key)->done.length<cs.length->G done H->YC Tryz.prog y [.av (.arr 32 5) (qK k)] H fun r H'=>r=.av .bool (.b true)/\G (done++[k]) H') :
  ∀H,G [] H->q6 Tryz.prog 170 [.av .func (.yl y),.av .ptr (.ptr c MpT [])] ((c,mbO M)::(M,.raw (.map en ck) i0 w1)::H)
   fun r H'=>r=.tup []/\∃done H1 it o,done.Perm (cs.map (·.key))/\G done H1/\H'=(it,o)::(c,mbO M)::(M,.raw (.map en ck) i0 w1)::H1:=by
 intro H hG
 have hMc:¬M=c:=fun e=>hcM e.symm
 refine zov Tryz.func170 cf0 fun imm0 w0=>?_
 simp (disch:=omega) [zz,mbO,hcM,hMc]
 intro it hit hiM _
 have hit':¬c=it:=fun e=>hit e.symm
 have hiM':¬M=it:=fun e=>hiM e.symm
 have hsz:en.size=cs.length:=by have:=xD hop.ents;simpa using this.symm
 refine AT.loop' (α:=List Nat × q7) (fun p=>St.of [(0,.av .func (.yl y)),(1,.av .ptr (.ptr c MpT [])),(5,.av .ptr (.ptr it .other []))] [] (fun _=>0) ((it,.raw (.mapIter (some M) ck (QU en p.1) ck) (fun _=>0) default)::(c,mbO M)::(M,.raw (.map en ck) i0 w1)::p.2))
  (fun p=>p.1.Nodup/\(∀i∈p.1,i<en.size)/\G (y8 (cs.map (·.key)) p.1) p.2) (fun p=>en.size-p.1.length) ([],H) ?_ ?_ ?_
 ·apply Le.of<;>simp[k8,z1,mbO,QU]<;>try omega
 ·exact⟨List.nodup_nil,by simp,hG⟩
 rintro⟨ids,H1⟩ ⟨hnd,hlt,hG1⟩ KL hN hE
 simp only at hnd hlt hG1
 refine zrd cf0 ?_
 simp (disch:=omega) [zz,mbO,hit,hiM,hit',hiM',hcM,hMc,zbw]
 refine⟨53,36,cs.map y6,hop,fun hall=>?_,fun i me u v hi hns hes=>?_⟩
 ·refine hE _ _ (by simp) ?_
  have hperm:(y8 (cs.map (·.key)) ids).Perm (cs.map (·.key)):=by
   refine vC hnd (fun i hi=>by have:=hlt i hi;simpa[hsz]using this) fun i hi=>?_
   have hi':i<en.size:=by simpa[hsz]using hi
   exact(K6 hop.st hlt (Array.getElem?_eq_getElem hi')).1 (hall i _ (Array.getElem?_eq_getElem hi'))
  have hH:=hGe _ _ hG1
  simp (disch:=omega) [zz,Tryz.f170,hH,HObj.er]
  exact⟨_,hperm,hG1⟩
 ·have hil:i<en.size:=(Array.getElem?_eq_some_iff.1 hi).1
  have hni:i∉ids:=fun h=>hns ((K6 hop.st hlt hi).2 h)
  have hic:i<cs.length:=by omega
  have hu:u=qK cs[i].key:=by
   rw[List.getElem?_map,List.getElem?_eq_getElem hic]at hes
   have:=Option.some.inj hes
   exact(congrArg Prod.fst this).symm
  subst hu
  rw[U8 en ids hi]
  refine⟨53,36,cs.map y6,hop,i,me,hi,qK cs[i].key,v,hes,rfl,?_⟩
  simp (disch:=omega) [zz]
  have hkm:cs[i].key∈cs.map (·.key):=List.mem_map.2 ⟨cs[i],List.getElem_mem hic,rfl⟩
  have hGn:y8 (cs.map (·.key)) (ids++[i])=y8 (cs.map (·.key)) ids++[cs[i].key]:=by
   simp[y8,List.getElem?_eq_getElem hic]
  have hnd2:(ids++[i]).Nodup:=List.nodup_append.2 ⟨hnd,by simp,fun a ha b hb e=>by simp only[List.mem_singleton]at hb;subst hb;exact hni (e▸ha)⟩
  have hlt2:∀k∈ids++[i],k<en.size:=fun k hk=>by
   rcases List.mem_append.1 hk with h|h
   ·exact hlt k h
   ·simp only[List.mem_singleton]at h;omega
  have hle2:=xX en.size _ hnd2 hlt2
  refine ZZ (R:=fun r H'=>r=.av .bool (.b true)/\G (y8 (cs.map (·.key)) (ids++[i])) H') H1 [(it,.raw (.mapIter (some M) ck (QU en (ids++[i])) ck) (fun _=>0) default),(c,mbO M),(M,.raw (.map en ck) i0 w1)] (List.perm_append_comm (l₁:=[_,_,_])) (by simp[qH]) ?_ ?_
  ·rw[hGe _ _ hG1,hGn]
   have:=hY _ _ _ hkm (by simp only[y8,List.length_map];simp at hle2;omega) hG1
   simpa[TV.er]using this
  rintro r H2 ⟨rfl,hG2⟩ _
  refine⟨(it,.raw (.mapIter (some M) ck (QU en (ids++[i])) ck) (fun _=>0) default)::(c,mbO M)::(M,.raw (.map en ck) i0 w1)::H2,HSub.of_perm (List.perm_append_comm (l₂:=[_,_,_])),?_⟩
  simp (disch:=omega) [zz]
  refine hN _ (ids++[i],H2) ?_ ⟨hnd2,hlt2,hG2⟩ (by simp at hle2 |-;omega)
  apply Le.of<;>simp[k8,z1,mbO]<;>try omega
theorem zlp {G:List Dig->q7->Prop} (y c M:Nat) (hcM:c≠M) (cs:List Cel) (hGe:∀done H,G done H->H.er=H)
  (hY:∀done (k:Dig) H,k∈cs.map (·.key)->done.length<cs.length->G done H->YC Tryz.prog y [.av (.arr 32 5) (qK k)] H fun r H'=>r=.av .bool (.b true)/\G (done++[k]) H') (H:q7) (hG:G [] H) :
  q6 Tryz.prog 170 [.av .func (.yl y),.av .ptr (.ptr c MpT [])] ((M,mpO (cs.map y6))::(c,mbO M)::H)
   fun r H'=>r=.tup []/\∃done H1,done.Perm (cs.map (·.key))/\G done H1/\H'=(M,mpO (cs.map y6))::(c,mbO M)::H1:=by
 refine q6.openMap fun en ck i0 w1 hop=>?_
 refine q6.conv (R:=fun r H'=>r=.tup []/\∃done H1,done.Perm (cs.map (·.key))/\G done H1/\H'=(M,.raw (.map en ck) i0 w1)::(c,mbO M)::H1) ?_ ?_
 ·refine q6.sub (((zku y c M hcM cs en ck i0 w1 hop hGe hY H hG)).perm (List.Perm.swap _ _ _)) ?_
  rintro r H' ⟨rfl,done,H1,it,o,hp,hg,rfl⟩ _
  exact⟨_,⟨_,List.Perm.cons _ (List.Perm.swap _ _ _),(List.Sublist.refl _).cons _⟩,rfl,done,H1,hp,hg,rfl⟩
 ·rintro r H' ⟨rfl,done,H1,hp,hg,rfl⟩
  exact⟨(M,mpO (cs.map y6))::(c,mbO M)::H1,fun b hb=>hb,fun imm w h=>h.shutMap hop,rfl,done,H1,hp,hg,rfl⟩
end
end Go.Proofs.YtognnffjdckalaaGreatDoor
