/- All that is kept is written anew, as the document has it: the program. No condition. -/
import Derived.Test.YtognnffjdckalaaGreatDoorKX2
set_option linter.unusedSimpArgs false
set_option linter.unusedVariables false
set_option linter.unusedSectionVars false
set_option maxHeartbeats 64000000
set_option maxRecDepth 100000
namespace Go.Proofs.YtognnffjdckalaaGreatDoor
open Go Go.Ab
open Classical
section
variable [Sel] [SelPow] [SelErr]
theorem zps {x:MV} (ho:OKD x.L) (hn:(x.bl.map Prod.fst).Nodup):sB x.bl (kT x).1=sB (XE x).bl (kyB (XE x).bl):=by
 have hI:=zjk x ho
 have hs:yB (kT x).1=yB (kyB (XE x).bl):=by
  refine zim (y9 _) (y9 _) ?_
  have hnd2:(kyB (XE x).bl).Nodup:=(List.filter_sublist.map _).nodup hn
  rw[List.perm_ext_iff_of_nodup hI.nd hnd2]
  intro d
  constructor
  ·intro h
   obtain⟨p,hp,rfl⟩:=List.mem_map.1 (hI.is d h)
   exact List.mem_map.2 ⟨p,List.mem_filter.2 ⟨hp,by simpa using h⟩,rfl⟩
  ·intro h
   obtain⟨p,hp,rfl⟩:=List.mem_map.1 h
   simpa using(List.mem_filter.1 hp).2
 unfold sB
 rw[hs]
 refine List.map_congr_left fun d hd=>?_
 rw[srtK_mem,<-srtK_mem,<-hs,srtK_mem]at hd
 unfold KZ
 rw[zc9 hd]
theorem zpq {bl:BlL} {m:Made} {s:wI}:(kE m.sum bl=false/\recM bl m s=s)\/(kE m.sum bl=true/\m.sum∈s.1/\recM bl m s=s)\/(kE m.sum bl=true/\m.sum∉s.1/\recM bl m s=(s.1++[m.sum],s.2++[wX (KZ bl m.sum)])):=by
 unfold recM kE KZ
 cases hf:bl.find? (fun p=>decide (p.1=m.sum))with
 | none=>exact .inl ⟨rfl,rfl⟩
 | some p =>
  by_cases h:m.sum∈s.1
  ·exact .inr (.inl ⟨rfl,h,by simp only;rw[if_pos h]⟩)
  ·exact .inr (.inr ⟨rfl,h,by simp only;rw[if_neg h];rfl⟩)
theorem zcj {bl:BlL} {hs:List Dig}:(sB bl hs).length=hs.length:=by unfold sB;rw[List.length_map,(y9 _).1.length_eq]
theorem zp8 {bl:BlL} {m:Made} {s:wI} (h:s.1.length<=s.2.length):(recM bl m s).1.length<=(recM bl m s).2.length:=by
 unfold recM
 split
 ·split
  ·exact h
  ·simp only[List.length_append,List.length_cons,List.length_nil];omega
 ·exact h
theorem zam {bl:BlL}:∀(l:List Made) {s:wI},s.1.length<=s.2.length->(l.foldl (fun s m=>recM bl m s) s).1.length<=(l.foldl (fun s m=>recM bl m s) s).2.length
 | [],_,h=>h
 | _::l,_,h=>zam l (zp8 h)
theorem zpu {bl:BlL} {t:qD} {s:wI} (h:s.1.length<=s.2.length):(recT bl t s).1.length<=(recT bl t s).2.length:=by
 have:=zam (bl:=bl) t.outs h
 unfold recT
 simp only[List.length_append,List.length_cons,List.length_nil]
 omega
theorem CB {bl:BlL}:∀(l:List qD) {s:wI},s.1.length<=s.2.length->(l.foldl (fun s t=>recT bl t s) s).1.length<=(l.foldl (fun s t=>recT bl t s) s).2.length
 | [],_,h=>h
 | _::l,_,h=>CB l (zpu h)
theorem zgq {x:MV}:∀(l:List Dig) {s:wI},s.1.length<=s.2.length->(l.foldl (fun s q=>recK x q s) s).1.length<=(l.foldl (fun s q=>recK x q s) s).2.length
 | [],_,h=>h
 | _::l,_,h=>zgq l (CB _ h)
theorem zbN (k:KV) (N:Nat) (hI:ZA N k) (hN:N<=12000000) :
  PC Tryz.prog 16 [.av RkT (rkE k)] (.tup [(RkT,rkE (yE k).1),(.int .i64,.i .i64 (yE k).2)]):=by
 have hM:=hI.mem
 have hrl:=gY hM hI.hi hN
 have hkl:=GV hM
 have hbll:=UC hM
 have hck:yE k=if (swapJ (kT k.M).2 k.j).2=0 then(⟨(swapJ (kT k.M).2 k.j).1,k.mo,XE k.M⟩,0) else(⟨(swapJ (kT k.M).2 k.j).1,k.mo,k.M⟩,(swapJ (kT k.M).2 k.j).2):=rfl
 have hso:=zps hM.ok hM.nd
 have hwr:=G5 hM
 obtain⟨ks,hks⟩:∃ks,ks=yB (k.M.L.map Prod.fst):=⟨_,rfl⟩
 have hksl:ks.length<=1000000:=by rw[hks,(y9 _).1.length_eq,List.length_map];omega
 have hkeys:=zlv (w9 k.M.L) (by omega)
 rw[zk3 hM.ok,<-hks]at hkeys
 obtain⟨R,hR⟩:∃R,R=kT k.M:=⟨_,rfl⟩
 rw[<-hR]at hck hso hwr
 have hRl:R.2.length<=N:=Nat.le_trans (V0 _) hwr
 obtain⟨G,hG⟩:∃G:Nat->wI,G=fun i=>(ks.take i).foldl (fun s q=>recK k.M q s) ([],[]):=⟨_,rfl⟩
 have hG0:G 0=([],[]):=by rw[hG];rfl
 have hGn:G ks.length=R:=by rw[hG,hR,hks];simp[kT]
 have hGs:∀i (h:i<ks.length),G (i+1)=recK k.M ks[i] (G i):=fun i h=>by rw[hG];simp only[List.take_succ_eq_append_getElem h,List.foldl_append,List.foldl_cons,List.foldl_nil]
 have hGl:∀i,(G i).2.length<=N:=fun i=>by
  refine Nat.le_trans ?_ hRl
  rw[hG,hR,hks]
  exact WO (f:=fun s q=>recK k.M q s) (fun s q=>zjx) _ _ i
 have hGI:∀i,∃T,J6 k.M T (G i):=fun i=>by
  rw[hG]
  exact⟨_,J6.recKs (ks.take i) (T:=0) (s:=([],[])) ⟨by simp[wtR],by simp,by simp⟩⟩
 have hGh:∀i,(G i).1.length<=(G i).2.length:=fun i=>by rw[hG];exact zgq _ (Nat.le_refl _)
 have hrk0:rkE k=.agg [rjE k.j,.i .i64 k.mo,rkM k.M,kN (sB k.M.bl (kyB k.M.bl))]:=rfl
 have hrm0:qU (w9 k.M.L)=rkM k.M:=rfl
 have e1:=CW k.M
 have e5:=ZT (sB k.M.bl (kyB k.M.bl))
 rw[hrm0]at hkeys
 have hed:kD ks=.sl .no (ks.map qK):=rfl
 obtain⟨CK,hCK⟩:∃CK,CK=yE k:=⟨_,rfl⟩
 rw[<-hCK]at hck |-
 refine zow Tryz.func16 cf0 fun imm0 w0=>?_
 simp (disch:=omega) [zz,hrk0]
 refine YE hkeys rfl rfl (by simp) (by simp[q9,TV.er,e1]) ?_
 rw[hed]
 simp (disch:=omega) [zz]
 refine AT.loopV (α:=Nat × Option Nat) (fun x ver=>St.of [(1,.loc 1 []),(2,.loc 2 []),(4,.av (.slice 9) (.sl (Z1 ver x.2) (qG (G x.1).2))),(5,.av (.slice 105) (kN (sB k.M.bl (G x.1).1))),(21,.av DgS (.sl .no (ks.map qK))),(22,.av (.int .i64) (.i .i64 ks.length)),(23,.av (.int .i64) (.i .i64 x.1))] [(1,(RkT,rkE k)),(2,(RkT,zKf))] ver [])
  (fun x=>x.1<=ks.length) (fun x=>ks.length-x.1) (0,none) ?_ ?_ ?_
 ·apply Le.of<;>simp[le9,hG0,hrk0,zKf,Z1,qG,kN,sB,yB]<;>try omega
 ·simp
 rintro⟨i,o⟩ ver hi KL hN' hE
 simp only at hi hN'
 refine zrd cf0 ?_
 by_cases hlt:i<ks.length
 rotate_left
 ·have hie:i=ks.length:=by omega
  subst hie
  have hlt':¬(ks.length:Int)<ks.length:=by omega
  rw[hGn]
  have hsw:=zhh R.2 (by omega) k.j hI.of.ok (by have:=hI.of.n;omega)
  have e6:=XY k.j
  have e7:=ZT (sB k.M.bl R.1)
  obtain⟨j2,ej2⟩:∃j2,j2=(swapJ R.2 k.j).1:=⟨_,rfl⟩
  rw[<-ej2]at hck hsw
  have e8:=XY j2
  simp (disch:=omega) [zz,hlt']
  refine hE _ _ (by simp) ?_
  clear hE hN'
  have hse:AV.ers (qG R.2)=qG R.2:=by simp[qG,AV.ers_eq,Function.comp_def,AV.er]
  have hrkO:∀j:JV,rkE ⟨j,k.mo,XE k.M⟩=.agg [rjE j,.i .i64 k.mo,rkM k.M,kN (sB k.M.bl R.1)]:=fun j=>by rw[hso];rfl
  have hrkM:∀j:JV,rkE ⟨j,k.mo,k.M⟩=.agg [rjE j,.i .i64 k.mo,rkM k.M,kN (sB k.M.bl (kyB k.M.bl))]:=fun j=>rfl
  simp (disch:=omega) [zz,hrk0]
  refine YE hsw rfl rfl (by simp) (by simp[q9,TV.er,AV.er,e6,hse]) ?_
  by_cases h0:(swapJ R.2 k.j).2=0
  ·rw[if_pos h0]at hck
   simp (disch:=omega) [zz,h0,hck,hrkO,Tryz.f16,e8,e1,e7]
  ·rw[if_neg h0]at hck
   simp (disch:=omega) [zz,h0,hck,hrkM,Tryz.f16,e8,e1,e5]
 have hlt':(i:Int)<ks.length:=by omega
 have hgk:=vY ks i hlt
 have hGi:=hGs i hlt
 obtain⟨q,hq⟩:∃q,q=ks[i]:=⟨_,rfl⟩
 rw[<-hq]at hgk hGi
 have hof:=zhL (w9 k.M.L) q (by omega)
 rw[zee hM.ok,hrm0]at hof
 obtain⟨T,hT⟩:∃T,T=getD k.M.L q:=⟨_,rfl⟩
 have hTl:T.length<=8:=by rw[hT];exact Nat.le_trans (hM.row q) hI.hi
 have hTg:∀t∈T,TrG t:=fun t ht=>(C9 hM (hT▸ht)).1
 have hte:qU T=.sl .no (trs T):=rfl
 have htll:(trs T).length=T.length:=XN T
 rw[<-hT,hte]at hof
 have hgGl:=hGl (i+1)
 obtain⟨GB,hGB⟩:∃GB:Nat->wI,GB=fun m=>(T.reverse.take m).foldl (fun s t=>recT k.M.bl t s) (G i):=⟨_,rfl⟩
 have hGB0:GB 0=G i:=by rw[hGB];rfl
 have hGBn:GB T.length=G (i+1):=by
  rw[hGB,hGi]
  show (T.reverse.take T.length).foldl _ _=_
  rw[List.take_of_length_le (by simp),hT];rfl
 have hGBs:∀m (h:m<T.length),GB (m+1)=recT k.M.bl (T[T.length-1-m]'(by omega)) (GB m):=fun m h=>by
  rw[hGB]
  simp only[List.take_succ_eq_append_getElem (show m<T.reverse.length by simpa using h),List.foldl_append,List.foldl_cons,List.foldl_nil,List.getElem_reverse]
 have hGBl:∀m,(GB m).2.length<=N:=fun m=>by
  refine Nat.le_trans ?_ hgGl
  rw[hGB,hGi,hT]
  exact WO (f:=fun s t=>recT k.M.bl t s) (fun s t=>zei) _ _ m
 obtain⟨T0,hT0⟩:=hGI i
 have hGBI:∀m,∃T1,J6 k.M T1 (GB m):=fun m=>by rw[hGB];exact⟨_,J6.recTs _ hT0⟩
 have hGBh:∀m,(GB m).1.length<=(GB m).2.length:=fun m=>by rw[hGB];exact CB _ (hGh i)
 clear hGB
 have hdE:qK q=qK q:=rfl
 simp (disch:=omega) [zz,hlt',hgk,hrk0]
 refine YE hof rfl rfl (by simp) (by simp[q9,TV.er,AV.er,e1]) ?_
 simp (disch:=omega) [zz,htll]
 refine AT.loopV (α:=Nat × Option Nat) (fun x ver=>St.of [(1,.loc 1 []),(2,.loc 2 []),(4,.av (.slice 9) (.sl (Z1 ver x.2) (qG (GB x.1).2))),(5,.av (.slice 105) (kN (sB k.M.bl (GB x.1).1))),(8,.av (.slice 56) (.sl .no (trs T))),(9,.av (.int .i64) (.i .i64 ((T.length:Int)-1-x.1))),(21,.av DgS (.sl .no (ks.map qK))),(22,.av (.int .i64) (.i .i64 ks.length)),(23,.av (.int .i64) (.i .i64 i))] [(1,(RkT,rkE k)),(2,(RkT,zKf))] ver [])
  (fun x=>x.1<=T.length) (fun x=>T.length-x.1) (0,o) ?_ ?_ ?_
 ·apply Le.of<;>simp[le9,hGB0,hrk0]<;>try omega
 ·simp
 rintro⟨m,o2⟩ ver2 hm KL2 hN2 hE2
 simp only at hm hN2
 refine zrd cf0 ?_
 by_cases hlt2:m<T.length
 rotate_left
 ·have hme:m=T.length:=by omega
  subst hme
  have hge:(T.length:Int)-1-T.length=-1:=by omega
  rw[hge]
  simp (disch:=omega) [zz]
  refine hE2 _ _ (by simp) ?_
  simp (disch:=omega) [zz]
  refine hN' _ (i+1,o2) ?_ (by simp only;omega) (by simp only;omega)
  apply Le.of<;>simp[le9,hGBn,hrk0]<;>try omega
 obtain⟨c,hc⟩:∃c:Nat,c=T.length-1-m:=⟨_,rfl⟩
 have hcc:(T.length:Int)-1-m=c:=by omega
 have hcl:c<T.length:=by omega
 have hgt:(trs T)[c]'(by omega)=q5 T[c]:=by simp[trs]
 have hGm:=hGBs m hlt2
 have hGml:=hGBl (m+1)
 have htg:=hTg _ (List.getElem_mem hcl)
 have hge:(0:Int)<=c:=by omega
 obtain⟨t,ht⟩:∃t,t=T[c]:=⟨_,rfl⟩
 have ht2:T[T.length-1-m]'(by omega)=t:=by rw[ht];simp only[hc]
 rw[ht2]at hGm
 rw[<-ht]at hgt htg
 have hmt:qF t.outs=.sl .no (t.outs.map qS):=rfl
 have htE:q5 t=.agg [qK t.key,qE t.reads,qF t.outs]:=rfl
 obtain⟨GC,hGC⟩:∃GC:Nat->wI,GC=fun j=>(t.outs.take j).foldl (fun s m=>recM k.M.bl m s) (GB m):=⟨_,rfl⟩
 have hGC0:GC 0=GB m:=by rw[hGC];rfl
 have hGCn:GB (m+1)=((GC t.outs.length).1,(GC t.outs.length).2++[yS t]):=by
  rw[hGm,hGC]
  simp only[List.take_length]
  rfl
 have hGCs:∀j (h:j<t.outs.length),GC (j+1)=recM k.M.bl t.outs[j] (GC j):=fun j h=>by
  rw[hGC]
  simp only[List.take_succ_eq_append_getElem h,List.foldl_append,List.foldl_cons,List.foldl_nil]
 have hGCl:∀j,(GC j).2.length<=(GC t.outs.length).2.length:=fun j=>by
  rw[hGC]
  simp only[List.take_length]
  exact WO (f:=fun s m=>recM k.M.bl m s) (fun s m=>zeo) _ _ j
 obtain⟨T1,hT1⟩:=hGBI m
 have hGCI:∀j,J6 k.M T1 (GC j):=fun j=>by rw[hGC];exact J6.recMs _ hT1
 have hGCh:∀j,(GC j).1.length<=(GC j).2.length:=fun j=>by rw[hGC];exact zam _ (hGBh m)
 rw[hGCn]at hGml
 simp only[List.length_append,List.length_cons,List.length_nil]at hGml
 clear hGC
 have hol:t.outs.length<=1000000000:=by have:=(Q3 htg.2).2;omega
 rw[hcc]
 simp (disch:=omega) [zz,hge,hcl,htll,hgt,htE,hmt]
 refine AT.loopV (α:=Nat × Option Nat) (fun x ver=>St.of [(1,.loc 1 []),(2,.loc 2 []),(4,.av (.slice 9) (.sl (Z1 ver x.2) (qG (GC x.1).2))),(5,.av (.slice 105) (kN (sB k.M.bl (GC x.1).1))),(8,.av (.slice 56) (.sl .no (trs T))),(9,.av (.int .i64) (.i .i64 c)),(21,.av DgS (.sl .no (ks.map qK))),(22,.av (.int .i64) (.i .i64 ks.length)),(23,.av (.int .i64) (.i .i64 i)),(42,.av (.slice 77) (.sl .no (t.outs.map qS))),(43,.av (.int .i64) (.i .i64 t.outs.length)),(44,.av (.int .i64) (.i .i64 x.1))] [(1,(RkT,rkE k)),(2,(RkT,zKf))] ver [])
  (fun x=>x.1<=t.outs.length) (fun x=>t.outs.length-x.1) (0,o2) ?_ ?_ ?_
 ·apply Le.of<;>simp[le9,hGC0,hrk0,hmt]<;>try omega
 ·simp
 rintro⟨j,o3⟩ ver3 hj KL3 hN3 hE3
 simp only at hj hN3
 refine zrd cf0 ?_
 have hslen:∀l:List (List UInt8),(qG l).length=l.length:=wP
 by_cases hltj:j<t.outs.length
 rotate_left
 ·have hje:j=t.outs.length:=by omega
  subst hje
  have hltj':¬(t.outs.length:Int)<t.outs.length:=by omega
  have hby:=PR t htg.W.1 htg.1 htg.W.2.1 htg.W.2.2 (fun h=>by have:=WY htg.1 h;omega)
  have hb:wO t=.tup [(.str,.s (WI t)),(.int .i64,.i .i64 0)]:=by unfold wO WI;rw[if_pos htg.2,if_pos htg.2]
  have hrw:=zeQ t htg.1
  have hte2:=QP t
  simp (disch:=omega) [zz,hltj']
  refine hE3 _ _ (by simp) ?_
  clear hE3 hN3
  obtain⟨TE,hTE⟩:∃TE,TE=q5 t:=⟨_,rfl⟩
  rw[<-hTE]at hgt hby hte2
  simp (disch:=omega) [zz,hge,hcl,htll,hgt]
  refine YE hby rfl rfl (by simp) (by simp[q9,TV.er,hte2]) ?_
  rw[hb]
  simp (disch:=omega) [zz]
  refine YE hrw rfl rfl (by simp) (by simp[q9,TV.er,AV.er,traceW]) ?_
  simp (disch:=omega) [zz]
  refine jV (by rw[hslen,show Tryz.prog.bytesOf 9=16 by kernel_rfl];simp;omega) (by rw[hslen];simp;omega) (by kernel_rfl) (by kernel_rfl) fun ver'=>?_
  simp (disch:=omega) [zz]
  refine hN2 _ (m+1,some 92) ?_ (by simp only;omega) (by simp only;omega)
  apply Le.of<;>simp[le9,hGCn,hrk0,wE,qG,Z1]<;>try omega
 have hltj':(j:Int)<t.outs.length:=by omega
 have hgm:=XJ t.outs j hltj
 have hGj:=hGCs j hltj
 have hj4l:=hGCl (j+1)
 have hjl:=hGCl j
 have hIj:=hGCI j
 obtain⟨m1,hm1⟩:∃m1,m1=t.outs[j]:=⟨_,rfl⟩
 rw[<-hm1]at hgm hGj
 have hjh:=hGCh j
 have hmE:qS m1=.agg [.s m1.path,qK m1.sum]:=rfl
 have hfd:=uA (sB k.M.bl (kyB k.M.bl)) m1.sum (by rw[C6];omega)
 have hfd2:=uA (sB k.M.bl (GC j).1) m1.sum (by rw[zcj];omega)
 have e6:=ZT (sB k.M.bl (GC j).1)
 rcases zpq (bl:=k.M.bl) (m:=m1) (s:=GC j)with⟨h1,h2⟩|⟨h1,h2,h3⟩|⟨h1,h2,h3⟩
 ·have hno:atB (sB k.M.bl (kyB k.M.bl)) m1.sum=-1:=ze7 fun h=>by rw[WC.2 h]at h1;cases h1
  rw[h2]at hGj
  rw[hno]at hfd
  simp (disch:=omega) [zz,hltj',hgm,hmE,hrk0]
  refine YE hfd rfl rfl (by simp) (by simp[q9,TV.er,AV.er,e5]) ?_
  simp (disch:=omega) [zz]
  refine hN3 _ (j+1,o3) ?_ (by simp only;omega) (by simp only;omega)
  apply Le.of<;>simp[le9,hGj,hrk0]<;>try omega
 ·obtain⟨i1,hi1,_⟩:=GK (bl:=k.M.bl) (WC.1 h1)
  obtain⟨i2,hi2,_⟩:=GK (bl:=k.M.bl) h2
  rw[h3]at hGj
  rw[hi1]at hfd
  rw[hi2]at hfd2
  have hl0:¬(i2:Int)<0:=by omega
  have hg0:(0:Int)<=i1:=by omega
  simp (disch:=omega) [zz,hltj',hgm,hmE,hrk0]
  refine YE hfd rfl rfl (by simp) (by simp[q9,TV.er,AV.er,e5]) ?_
  simp (disch:=omega) [zz,hg0]
  refine YE hfd2 rfl rfl (by simp) (by simp[q9,TV.er,AV.er,e6]) ?_
  simp (disch:=omega) [zz,hl0]
  refine hN3 _ (j+1,o3) ?_ (by simp only;omega) (by simp only;omega)
  apply Le.of<;>simp[le9,hGj,hrk0]<;>try omega
 ·obtain⟨i1,hi1,hg1⟩:=GK (bl:=k.M.bl) (WC.1 h1)
  have hno:atB (sB k.M.bl (GC j).1) m1.sum=-1:=ze7 h2
  rw[h3]at hGj
  rw[hi1]at hfd
  rw[hno]at hfd2
  have hil:i1<(sB k.M.bl (kyB k.M.bl)).length:=(List.getElem?_eq_some_iff.1 hg1).1
  have hgb:((sB k.M.bl (kyB k.M.bl)).map yC)[i1]?=some (yC (m1.sum,KZ k.M.bl m1.sum)):=by simp[hg1]
  have hbE:yC (m1.sum,KZ k.M.bl m1.sum)=.agg [qK m1.sum,.s (KZ k.M.bl m1.sum)]:=rfl
  have hdl:(KZ k.M.bl m1.sum).length<=1000000000:=by
   unfold KZ
   unfold kE at h1
   cases hf:k.M.bl.find? (fun p=>decide (p.1=m1.sum))with
   | none=>simp
   | some p =>
    have h4:=zb5 (UQ hf).1
    have h5:=cM p.2
    have h6:=hM.le
    simp only[wtB]at h4
    simp only[Option.map_some,Option.getD_some]
    omega
  have h32:∀p∈sB k.M.bl (GC j).1,p.1.length=32:=fun p hp=>by
   obtain⟨q2,hq2,he⟩:=List.mem_map.1 (hIj.is _ (gD.1 hp).1)
   rw[<-he,hM.sh q2 hq2];exact QE _
  have hd32:m1.sum.length=32:=by
   obtain⟨q2,hq2,he⟩:=List.mem_map.1 (WC.1 h1)
   rw[<-he,hM.sh q2 hq2];exact QE _
  have hpt:=pT (sB k.M.bl (GC j).1) (m1.sum,KZ k.M.bl m1.sum) (by rw[zcj];omega) hd32 h32
  rw[zcT h2 (fun _ _=>rfl) rfl]at hpt
  have hrw:=zgF (KZ k.M.bl m1.sum) hdl
  have hle:kN (sB k.M.bl (kyB k.M.bl))=.sl .no ((sB k.M.bl (kyB k.M.bl)).map yC):=rfl
  have hg0:(0:Int)<=i1:=by omega
  simp (disch:=omega) [zz,hltj',hgm,hmE,hrk0]
  refine YE hfd rfl rfl (by simp) (by simp[q9,TV.er,AV.er,e5]) ?_
  simp (disch:=omega) [zz,hg0]
  refine YE hfd2 rfl rfl (by simp) (by simp[q9,TV.er,AV.er,e6]) ?_
  simp (disch:=omega) [zz,hle,hil,hgb,hbE]
  refine YE hpt rfl rfl (by simp) (by simp[q9,TV.er,AV.er,AV.ers,e6,yC]) ?_
  simp (disch:=omega) [zz,hle,hil,hgb,hbE]
  refine YE hrw rfl rfl (by simp) (by simp[q9,TV.er,AV.er,blobW]) ?_
  simp (disch:=omega) [zz]
  refine jV (by rw[hslen,show Tryz.prog.bytesOf 9=16 by kernel_rfl];simp;omega) (by rw[hslen];simp;omega) (by kernel_rfl) (by kernel_rfl) fun ver'=>?_
  simp (disch:=omega) [zz]
  refine hN3 _ (j+1,some 78) ?_ (by simp only;omega) (by simp only;omega)
  apply Le.of<;>simp[le9,hGj,hrk0,hle,wE,qG,Z1]<;>try omega
theorem zmg {bl:BlL} (hn:(bl.map Prod.fst).Nodup) {p:Dig × List UInt8} (hp:p∈bl):KZ bl p.1=p.2:=by
 unfold KZ
 induction bl with
 | nil=>cases hp
 | cons q r ih =>
  grind
theorem zqt {bl:BlL} (hn:(bl.map Prod.fst).Nodup):szB (sB bl (kyB bl))=szB bl:=by
 unfold szB sB
 rw[List.map_map]
 have h:((yB (kyB bl)).map ((fun p:Dig × List UInt8=>p.2.length) ∘ fun d=>(d,KZ bl d))).Perm ((kyB bl).map ((fun p:Dig × List UInt8=>p.2.length) ∘ fun d=>(d,KZ bl d))):=(y9 _).1.map _
 rw[h.sum_nat]
 unfold kyB
 rw[List.map_map]
 congr 1
 simp_all[zmg]
theorem zot {n:Nat} (h:n<5):IntKind.u8.wrap (n:Int)=n:=by
 obtain rfl|rfl|rfl|rfl|rfl:n=0\/n=1\/n=2\/n=3\/n=4:=by omega
 all_goals rfl
abbrev zqM:Cfg:=⟨fun _=>false,fun _=>false⟩
theorem znn (K B M:Nat) (a:KA) (k:KV) (hk:ZB a k) (hTS:a.T≠a.S) (N:Nat) (hI:ZA N k) (hN:N<=12000000) :
  q6 Tryz.prog 10 [.av .ptr (.ptr K KpT []),.av RkT (rkE k)] (kpH K B M a k) fun r H'=>r=.av (.int .i64) (.i .i64 1)/\H'=kpH K B M a k:=by
 have hM:=hI.mem
 have hkl:=GV hM
 have hbl:=UC hM
 have hrl:=gY hM hI.hi hN
 have hss:=vR k.M.bl
 have hle:=hM.le
 have hct:=zcG K B M a k hk (by omega) (fun p hp=>(hM.tr p hp).1) (fun q=>Nat.le_trans (hM.row q) hI.hi)
 have hcn:((yB (k.M.L.map Prod.fst)).map fun q=>(getD k.M.L q).length).sum=(w9 k.M.L).length:=by simp[w9]
 rw[hcn]at hct
 have hsl:(sB k.M.bl (kyB k.M.bl)).length=k.M.bl.length:=C6
 have hsz:=zhK (sB k.M.bl (kyB k.M.bl)) (by omega) (by rw[zqt hM.nd];omega)
 rw[zqt hM.nd]at hsz
 have e5:=ZT (sB k.M.bl (kyB k.M.bl))
 have e1:=QX (w9 k.M.L)
 obtain⟨bs,hbs⟩:∃bs,bs=sB k.M.bl (kyB k.M.bl):=⟨_,rfl⟩
 obtain⟨BS,hBS⟩:∃BS,BS=bs.map yC:=⟨_,rfl⟩
 have hbe:kN (sB k.M.bl (kyB k.M.bl))=.sl .no BS:=by rw[hBS,hbs];rfl
 obtain⟨T,hT⟩:∃T,T=trs (w9 k.M.L):=⟨_,rfl⟩
 have het:qU (w9 k.M.L)=.sl .no T:=by rw[hT];rfl
 have hlt0:T.length=(w9 k.M.L).length:=by simp_all
 have hof:=fun q=>zhL (w9 k.M.L) q (by omega)
 simp only[zee hM.ok]at hof
 have hrk0:rkE k=.agg [rjE k.j,.i .i64 k.mo,.sl .no T,.sl .no BS]:=by rw[<-het,<-hbe];rfl
 rw[hbe]at hsz e5
 rw[het]at e1
 simp only[het]at hof
 simp[AV.er]at e5 e1
 have hbm:∀p∈bs,kE p.1 k.M.bl=true/\p.2=KZ k.M.bl p.1:=fun p hp=>by
  simp_all[gD,WC]
 rw[<-hbs]at hsl
 refine zov Tryz.func10 zqM fun imm0 w0=>?_
 simp (disch:=omega) [zz,hrk0]
 refine WZ K B M a k hk [] (by simp) hct (by simp) (by simp[qH]) (by simp[q9,TV.er,AV.er]) ?_
 simp (disch:=omega) [zz,hlt0]
 refine YE hsz rfl rfl (by simp) (by simp[q9,TV.er,AV.er,e5]) ?_
 simp (disch:=omega) [zz,hlt0]
 refine AT.loop' (α:=Nat) (fun i=>St.of [(0,.av .ptr (.ptr K KpT [])),(3,.loc 3 []),(32,.av (.int .i64) (.i .i64 i))] [(3,(RkT,.agg [rjE k.j,.i .i64 k.mo,.sl .no T,.sl .no BS]))] (fun _=>0) (kpH K B M a k))
  (fun i=>i<=5) (fun i=>5-i) 0 ?_ ?_ ?_
 ·apply Le.of<;>simp[le9]<;>try omega
 ·simp
 ·rintro i hi KL hN hE
  refine zrd zqM ?_
  by_cases hlt:i<5
  ·have hlt':(i:Int)<5:=by omega
   have hw:=zot hlt
   have hke:=ziI (i:Int) (by omega) (by omega)
   simp only[List.reduceReplicate]at hke
   have hq2:=zaq K B M a k hk (kdI i)
   have hofq:=hof (kdI i)
   have hG:∀t∈getD k.M.L (kdI i),uN t:=fun t ht=>(C9 hM ht).1.W.ok
   have hgl:=hM.row (kdI i)
   have hsm:=zky _ _ hG hG (by have:=hI.hi;omega) (by have:=hI.hi;omega)
   rw[show decide (getD k.M.L (kdI i)=getD k.M.L (kdI i))=true by simp]at hsm
   have e6:=QX (getD k.M.L (kdI i))
   have hqE:q6 Tryz.prog 25 [.av .ptr (.ptr K KpT []),.av (q8 Tryz.prog 53) (qK (kdI i))] (q7.er (kpH K B M a k)) fun r H'=>r=.av (.slice 56) (qU (getD k.M.L (kdI i)))/\H'=kpH K B M a k:=by
    rw[kA hk];exact hq2
   obtain⟨ET,hET⟩:∃ET,ET=qU (getD k.M.L (kdI i)):=⟨_,rfl⟩
   rw[<-hET]at hqE hsm e6 hofq
   obtain⟨Q,hQ⟩:∃Q,Q=qK (kdI i):=⟨_,rfl⟩
   have hqe:Q.er=Q:=by simp_all
   rw[<-hQ]at hqE hofq hke
   simp (disch:=omega) [zz,hlt',hw,hke]
   (repeat with_reducible refine om ?_)
   refine QQ (kpH K B M a k) [] (by simp) hqE rfl rfl (by simp) (by simp[q9,TV.er,AV.er,hqe]) ?_
   simp (disch:=omega) [zz]
   (repeat with_reducible refine om ?_)
   refine XF hofq rfl rfl (by simp) (by simp_all[q9]) ?_
   simp (disch:=omega) [zz]
   (repeat with_reducible refine om ?_)
   refine XF hsm rfl rfl (by simp) (by simp[q9,TV.er,e6]) ?_
   simp (disch:=omega) [zz]
   (repeat with_reducible refine om ?_)
   refine hN _ (i+1) ?_ (by omega) (by omega)
   apply Le.of<;>simp[le9]<;>try omega
  ·have hie:i=5:=by omega
   subst hie
   simp (disch:=omega) [zz]
   refine hE _ _ (by simp) ?_
   clear hE hN
   simp (disch:=omega) [zz]
   have hbl2:BS.length=bs.length:=by simp_all
   refine AT.loop' (α:=Nat) (fun i=>St.of [(0,.av .ptr (.ptr K KpT [])),(49,.av (.slice 105) (.sl .no BS)),(50,.av (.int .i64) (.i .i64 bs.length)),(51,.av (.int .i64) (.i .i64 i))] [] (fun _=>0) (kpH K B M a k))
    (fun i=>i<=bs.length) (fun i=>bs.length-i) 0 ?_ ?_ ?_
   ·apply Le.of<;>simp[le9,hbl2]<;>try omega
   ·simp
   rintro i hi KL hN hE
   refine zrd zqM ?_
   by_cases hlt:i<bs.length
   ·have hlt':(i:Int)<bs.length:=by omega
    have hgb:BS[i]'(by omega)=yC bs[i]:=by simp_all
    obtain⟨hb1,hb2⟩:=hbm _ (List.getElem_mem hlt)
    obtain⟨p,hp⟩:∃p,p=bs[i]:=⟨_,rfl⟩
    rw[<-hp]at hgb hb1 hb2
    have hpE:yC p=.agg [qK p.1,.s p.2]:=rfl
    have hkb:=zcc K B M a k hk hTS p.1
    have hdb:((k.M.bl.find? fun q=>decide (q.1=p.1)).map Prod.snd).getD []=p.2:=hb2.symm
    rw[hdb,hb1]at hkb
    simp (disch:=omega) [zz,hlt',hgb,hpE,hbl2]
    refine WZ K B M a k hk [] (by simp) hkb (by simp) (by simp[qH]) (by simp[q9,TV.er,AV.er]) ?_
    simp (disch:=omega) [zz]
    refine hN _ (i+1) ?_ (by omega) (by omega)
    apply Le.of<;>simp[le9]<;>try omega
   ·have hlt':¬(i:Int)<bs.length:=by omega
    simp (disch:=omega) [zz,hlt']
    refine hE _ _ (by simp) ?_
    simp (disch:=omega) [zz,Tryz.f10,kA hk]
def aOne:WA:=⟨0,[],[⟨[111,117,116,47,111],[120]⟩],0⟩
theorem zhF:wF [111,117,116,47,111] V3=true:=by decide
theorem zaQ:qY (trO aOne)=0:=by
 simp[qY,trO,aOne,yO,ZD,Q0,zhF]
theorem zll:zk4 (trO aOne) aOne.outs:=zqG (by simp[aOne]) zaQ (by simp[aOne,szO,szR])
theorem zm9:kU 2 [] (trO aOne)=[(kdI 0,[trO aOne])]:=by
 simp only[kU,zaQ,if_true]
 simp[getD,Q5,yG,kp,trO,aOne]
theorem zka:YZ aOne.outs []=[(sha [120],[120])]:=by simp[YZ,aOne,kY]
theorem zlC:((yB ([(kdI 0,[trO aOne])].map Prod.fst)).map fun q=>(getD [(kdI 0,[trO aOne])] q).length).sum=1:=by
 have h:=(y9 [kdI 0]).1
 have:yB [kdI 0]=[kdI 0]:=List.perm_singleton.1 h
 simp[this,getD]
theorem zlZ:q5 (trO aOne)=.agg [qK (kdI 0),.sl .no [],.sl .no [.agg [.s [111,117,116,47,111],qK (sha [120])]]]:=by
 simp[q5,trO,aOne,qE,qF,qS,Q0]
theorem zdy:PC Tryz.prog 4 [] (.av .bool (.b true)):=by
 refine q6.sub (R:=fun r H'=>r=.av .bool (.b true)) ?_ (fun r H' hr _=>⟨[],HSub.of_sub (List.nil_sublist _),hr,rfl⟩)
 have h0:kQ 2 J0=(J0,some ⟨⟨J0,false⟩,2,⟨[],[]⟩⟩,0):=znH (mo:=2) (by omega) (by omega)
 obtain⟨k0,hk0⟩:∃k0:KV,k0=⟨⟨J0,false⟩,2,⟨[],[]⟩⟩:=⟨_,rfl⟩
 rw[<-hk0]at h0
 have hI0:ZA 0 k0:=((XK (mo:=2) zck).2 k0 (by rw[h0])).1
 have hf0:ZQ k0.j.d.m []:=by rw[hk0];exact .inl ⟨rfl,rfl⟩
 have hb0:k0.j.br=false:=by rw[hk0]
 obtain⟨t,ht⟩:∃t,t=trO aOne:=⟨_,rfl⟩
 have hfit:=zll
 have hg:TrG t:=by rw[ht];exact hfit.g
 have hM0:k0.mo=2/\k0.M=⟨[],[]⟩:=by rw[hk0];exact⟨rfl,rfl⟩
 obtain⟨k1,hk1⟩:∃k1,k1=(w6 t aOne.outs k0).1:=⟨_,rfl⟩
 have hwt:=zrx (o:=aOne) (by simp[aOne]) (by simp[aOne,szO,szR])
 rw[<-ht]at hwt hfit
 have hI1:ZA 1000000 k1:=by
  rw[hk1]
  exact(zcp hI0 hg.1 aOne.outs).1.up (by omega)
 have hk:(w6 t aOne.outs k0).2=0/\ZQ k1.j.d.m (zbt t aOne.outs []):=by
  rw[hk1]
  rcases zi7 hb0 hf0 hfit with⟨a1,_,a3,_⟩|⟨_,_,a3,_⟩
  ·rw[hM0.2]at a3;exact⟨a1,a3⟩
  ·exact absurd (by rw[hk0];rfl) a3
 have hop:=DX (zib hfit) hk.2 []
 have hld:=zh8 (mo:=2) hfit ⟨[],[]⟩
 have hcv:(qY t)=0:=hg.2
 have ho:=zpI (mo:=2) (by omega) (by omega) hop hld
 have hL:kU 2 [] t=[(kdI 0,[trO aOne])]:=by rw[ht];exact zm9
 simp only[hL,zka]at ho
 obtain⟨d2,hd2⟩:∃d2,d2=(openJ (kP [] k1.j.d)).1:=⟨_,rfl⟩
 rw[<-hd2]at ho
 obtain⟨k2,hk2⟩:∃k2:KV,k2=⟨⟨d2,false⟩,2,⟨[(kdI 0,[trO aOne])],[(sha [120],[120])]⟩⟩:=⟨_,rfl⟩
 rw[<-hk2]at ho
 have hv:((k2.M.bl.find? fun p=>decide (p.1=sha [120])).map Prod.snd).getD []=[120]:=by rw[hk2];simp
 have hb:kE (sha [120]) k2.M.bl=true:=by rw[hk2];simp[kE]
 have hn:((yB (k2.M.L.map Prod.fst)).map fun q=>(getD k2.M.L q).length).sum=1:=by rw[hk2];exact zlC
 have hm:szB k2.M.bl=1:=by rw[hk2];rfl
 have hgd:getD k2.M.L (kdI 0)=[t]:=by rw[hk2,ht];simp[getD]
 have hL2:k2.M.L.length<=1000000/\(∀p∈k2.M.L,p.1.length=32)/\∀q,(getD k2.M.L q).length<=8:=by
  rw[hk2]
  refine⟨by simp,by simp[zdF],fun q=>?_⟩
  by_cases h:kdI 0=q<;>simp[getD,h]
 have hte:q5 t=.agg [qK (kdI 0),.sl .no [],.sl .no [.agg [.s [111,117,116,47,111],qK (sha [120])]]]:=by rw[ht];exact zlZ
 have hts:qU [t]=.sl .no [q5 t]:=rfl
 obtain⟨kd,hkd⟩:∃kd,kd=kdI 0:=⟨_,rfl⟩
 obtain⟨sd,hsd⟩:∃sd,sd=sha [120]:=⟨_,rfl⟩
 rw[<-hkd]at hte hgd
 rw[<-hsd]at hte hv hb
 refine zov Tryz.func4 cf0 fun imm0 w0=>?_
 simp (disch:=omega) [zz]
 refine qM [] [] (List.Perm.refl _) rfl (by simp[qH]) (by simp) (R:=fun r H'=>∃B M,M≠B/\r=.av .ptr (.ptr B QI [])/\H'=zA B M false J0) ?_ ?_
 ·simpa[q7.er_nil]using zdr
 rintro r' H' ⟨B,M,hMB,rfl,rfl⟩ _
 refine⟨_,HSub.refl _,?_⟩
 simp (disch:=omega) [zz]
 refine dT B M hMB false J0 2 0 (by omega) zck h0 [] (by simp) (by simp[qH]) (by simp[q9,TV.er,AV.er]) fun K a hka hne=>?_
 simp (disch:=omega) [zz]
 refine YE (zrb aOne (by decide) (by decide) (by simp[aOne]) (by simp[aOne]) rfl) rfl rfl (by simp[qH]) (by simp[q9,TV.er,AV.er,AV.ers,y4,aOne,qE,zI,zC]) ?_
 have hon:zqc aOne=.tup [(TrT,q5 t),(.slice 73,zI aOne.outs)]:=by rw[ht];rfl
 simp (disch:=omega) [zz,hon]
 refine zbb K B M a k0 hka [] (by simp) (zfP K B M a k0 0 hka hI0 t hg.W hg.1 aOne.outs (by simp[aOne]) (by simp[aOne]) (by omega)) (by simp) (by simp[qH]) (by simp[q9,TV.er,AV.er,KT]) fun a1 hka1 hne1=>?_
 rw[hk.1]
 rw[<-hk1]at hka1 |-
 simp (disch:=omega) [zz]
 refine uX B M hMB a1.o k1.j.d hI1.ok ⟨by have:=hI1.m;omega,by have:=hI1.n;omega⟩ [] (by simp) _ (D2 K B M a1 k1) (by simp[qH]) (by simp[q9,TV.er,AV.er,JX]) fun B2 M2 o2 hMB2=>?_
 simp (disch:=omega) [zz]
 refine dT B2 M2 hMB2 o2 (kP [] k1.j.d) 2 1000000 (by omega) (hI1.of.crash []) ho [] (by simp) (by simp[qH]) (by simp[q9,TV.er,AV.er]) fun K2 a2 hka2 hne2=>?_
 simp (disch:=omega) [zz,hte]
 have hq1:=zcc K2 B2 M2 a2 k2 hka2 hne2.TS sd
 rw[hv,hb]at hq1
 refine WZ K2 B2 M2 a2 k2 hka2 [] (by simp) hq1 (by simp) (by simp[qH]) (by simp[q9,TV.er,AV.er]) ?_
 simp (disch:=omega) [zz]
 have hq2:=zcG K2 B2 M2 a2 k2 hka2 hL2.1 hL2.2.1 hL2.2.2
 rw[hn,hm]at hq2
 refine WZ K2 B2 M2 a2 k2 hka2 [] (by simp) hq2 (by simp) (by simp[qH]) (by simp[q9,TV.er,AV.er]) ?_
 simp (disch:=omega) [zz]
 have hq3:=zaq K2 B2 M2 a2 k2 hka2 kd
 rw[hgd,hts]at hq3
 refine WZ K2 B2 M2 a2 k2 hka2 [] (by simp) hq3 (by simp) (by simp[qH]) (by simp[q9,TV.er,AV.er]) ?_
 simp (disch:=omega) [zz,Tryz.f4]
end
end Go.Proofs.YtognnffjdckalaaGreatDoor
