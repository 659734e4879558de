/- All that is kept, as records: the program. No condition. -/
import Derived.Test.YtognnffjdckalaaGreatDoorKR6ToI1a
set_option linter.unusedSimpArgs false
set_option linter.unusedVariables false
set_option linter.unusedSectionVars false
set_option maxHeartbeats 64000000
set_option maxRecDepth 100000
namespace Go.Proofs.YtognnffjdckalaaGreatDoor
open Go Go.Ab
open Classical
variable [Sel] [SelPow] [SelErr]
theorem AT.nod {c:Ctx} {code:Code} {K:Exit->St->Prop} {s:St} (h:s.H.keys.Nodup->AT c code K s):AT c code K s:=fun a w g β hS=>h hS.rep.nodup a w g β hS
theorem q6.nilT {P:Program} {f:FuncId} {args:List TV} {H:q7} {R R':TV->q7->Prop} (h:q6 P f args H R) (hr:∀r H',R r H'->R' r H'\/∃e d y,r=.tup [(.slice e,.nsl),(d,y)]/\R' (.tup [(.slice e,.sl .no []),(d,y)]) H'):q6 P f args H R' :=
 fun imm w vs h1 h2=>(h imm w vs h1 h2).mono fun e w' ⟨v,r,imm',H',a,b,c,d,st⟩=>by
  rcases hr _ _ b with h3|⟨e,d',y,rfl,h3⟩
  ·exact⟨v,r,imm',H',a,h3,c,d,st⟩
  ·obtain⟨us,h4,h5⟩:=c
   match us,h5 with
   | u::us,⟨⟨f,hv⟩,h6⟩ =>
    simp only[VC]at hv
    obtain⟨_,_,hv⟩:=hv
    exact⟨v,_,imm',H',a,h3,⟨u::us,h4,⟨f,by simp only[VC];exact⟨e,none,0,rfl,hv,by simp,by simp[xV]⟩⟩,h6⟩,d,st⟩
abbrev HdT:TyD:=.map 53 4
def zdD (l:List Dig):List (AV × AV):=l.map fun d=>(qK d,.b true)
noncomputable def yJ (l:List Dig):HObj:=.map 53 4 (zdD l)
theorem pO (d:Dig):∀l:List Dig,yT (qK d) (zdD l)=if d∈l then some (.b true) else none
 | []=>rfl
 | x::l=>by
  have ih:=pO d l
  simp only[zdD,List.map_cons,yT,J4,List.mem_cons]at ih |-
  by_cases h:x=d
  ·simp[h]
  ·have h':¬d=x:=fun e=>h e.symm
   simp[h,h',ih]
theorem zeT (d:Dig):∀l:List Dig,d∉l->JL (qK d) (.b true) (zdD l)=zdD (l++[d])
 | [],_=>rfl
 | x::l,h=>by
  simp only[List.mem_cons,not_or]at h
  have ih:=zeT d l h.2
  have hx:¬x=d:=fun e=>h.1 e.symm
  simp only[zdD,List.map_cons,JL,J4,List.cons_append,hx,if_false]at ih |-
  rw[ih]
@[simp] theorem zp0 (l:List Dig):(yJ l).er=yJ l:=by
 simp only[yJ,HObj.er_map,zdD,List.map_map,Function.comp_def,vZ,AV.er]
noncomputable def DN (cap:Nat) (l:List (List UInt8)) (j:List AV):HObj:=.var (.arr cap 9) (.agg (qG l++j))
theorem zoI (l:List (List UInt8)):JK (qG l):=by unfold JK;simp[qG,AV.erks_eq,Function.comp_def,AV.erk]
theorem zqz (n:Nat):JK (List.replicate n (AV.s [])):=by unfold JK;rw[AV.erks_eq,List.map_replicate];congr 1
theorem ziK {cap:Nat} {l:List (List UInt8)} {j:List AV} (h:JK j):(DN cap l j).er=DN cap l j:=by
 have:=(zoI l).app h
 unfold JK at this
 simp only[DN,HObj.er_var,AV.erk,this]
def ZO (l:List (List UInt8)) (x:AV) (Rw:q7):Prop:=(l=[]/\x=.nsl/\Rw=[])\/∃b cap j,JK j/\l.length+j.length=cap/\x=.msl b 9 0 l.length cap/\Rw=[(b,DN cap l j)]
theorem ZO.er {l:List (List UInt8)} {x:AV} {Rw:q7} (h:ZO l x Rw):Rw.er=Rw:=by
 rcases h with⟨_,_,rfl⟩|⟨b,cap,j,hj,_,_,rfl⟩
 ·rfl
 ·rw[q7.er_cons,ziK hj];rfl
theorem ZO.xer {l:List (List UInt8)} {x:AV} {Rw:q7} (h:ZO l x Rw):x.erk=x/\x.er=x:=by
 rcases h with⟨_,rfl,_⟩|⟨b,cap,j,hj,_,rfl,_⟩<;>exact⟨rfl,rfl⟩
theorem ZO.oer {l:List (List UInt8)} {x:AV} {b:Nat} {o:HObj} (h:ZO l x [(b,o)]):o.er=o:=by
 have:=h.er
 rw[q7.er_cons,q7.er_nil]at this
 exact(Prod.mk.inj (List.cons.inj this).1).2
theorem ZO.new {r:List UInt8} {b cap:Nat} (h:1<=cap):ZO [r] (.msl b 9 0 1 cap) [(b,.var (.arr cap 9) (.agg (.s r::List.replicate (cap-1) (.s []))))] :=
 .inr ⟨b,cap,_,zqz (cap-1),by simp;omega,rfl,rfl⟩
theorem zby (l:List (List UInt8)) (j:List AV):(qG l++j).take l.length=qG l:=by rw[List.take_append_of_le_length (by simp[qG])];exact List.take_of_length_le (by simp[qG])
theorem zmk (l:List (List UInt8)) (j:List AV):(qG l++j).drop (l.length+1)=j.drop 1:=by
 rw[List.drop_append,List.drop_of_length_le (by simp[qG])];simp[qG]
theorem ZO.in {l:List (List UInt8)} {r:List UInt8} {b cap:Nat} {j:List AV} (hj:JK j) (hc:l.length+j.length=cap) (h:l.length+1<=cap):ZO (l++[r]) (.msl b 9 0 (l.length+1) cap) [(b,.var (.arr cap 9) (.agg ((qG l++j).take l.length++.s r::(qG l++j).drop (l.length+1))))]:=by
 rw[zby,zmk]
 refine .inr ⟨b,cap,j.drop 1,hj.drop 1,by simp;omega,by simp,?_⟩
 simp[DN,wE,qG]
theorem ZO.out {l:List (List UInt8)} {r:List UInt8} {b cap:Nat} {j:List AV} (h:l.length+1<=cap):ZO (l++[r]) (.msl b 9 0 (l.length+1) cap) [(b,.var (.arr cap 9) (.agg ((qG l++j).take l.length++.s r::List.replicate (cap-(l.length+1)) (.s []))))]:=by
 rw[zby]
 refine .inr ⟨b,cap,_,zqz (cap-(l.length+1)),by simp;omega,by simp,?_⟩
 simp[DN,wE,qG]
theorem zoD (F:q7) (K B M:Nat) (a:KA) (k:KV):(F++kpH K B M a k).Perm (stB a.S a.T k.M.bl++(F++((K,kpO a)::(jH a.J B M a.o k.j++DbH a.D a.E k.mo a.cs)))) :=
 (List.Perm.append_left F (CY K B M a k)).trans (List.perm_append_comm_assoc _ _ _)
theorem zq4 (F:q7) (K B M:Nat) (a:KA) (k:KV):(F++kpH K B M a k).Perm (DbH a.D a.E k.mo a.cs++(F++((K,kpO a)::(jH a.J B M a.o k.j++stB a.S a.T k.M.bl)))) :=
 (List.Perm.append_left F (d9 K B M a k)).trans (List.perm_append_comm_assoc _ _ _)
theorem zqN (K B M:Nat) (a:KA) (k:KV):K∈(kpH K B M a k).keys:=by simp[kpH,q7.keys]
theorem zfj {Rw:q7} {K B M:Nat} {a:KA} {k:KV} (h:(Rw++kpH K B M a k).keys.Nodup):zU (Rw++kpH K B M a k) K=some (.var KpT (.agg [.ptr a.J JnT [],.ptr a.D DbT [],.ptr a.S QW []])):=by
 rw[q7.keys_app]at h
 rw[vL fun hK=>(List.nodup_append.1 h).2.2 K hK K (zqN K B M a k) rfl]
 exact QM K B M a k
theorem zeo {bl:BlL} {m:Made} {s:wI}:s.2.length<=(recM bl m s).2.length:=by
 unfold recM
 split
 ·split<;>simp
 ·exact Nat.le_refl _
theorem GE {α:Type} {f:wI->α->wI} (h:∀s x,s.2.length<=(f s x).2.length):∀(l:List α) (s:wI),s.2.length<=(l.foldl f s).2.length
 | [],s=>Nat.le_refl _
 | x::l,s=>Nat.le_trans (h s x) (GE h l (f s x))
theorem WO {α:Type} {f:wI->α->wI} (h:∀s x,s.2.length<=(f s x).2.length) (l:List α) (s:wI) (i:Nat):((l.take i).foldl f s).2.length<=(l.foldl f s).2.length:=by
 conv=>rhs;rw[<-List.take_append_drop i l,List.foldl_append]
 exact GE h _ _
theorem zei {bl:BlL} {t:qD} {s:wI}:s.2.length<=(recT bl t s).2.length:=by
 have:=GE (f:=fun s m=>recM bl m s) (fun s m=>zeo) t.outs s
 unfold recT
 simp only[List.length_append]
 omega
theorem zjx {x:MV} {q:Dig} {s:wI}:s.2.length<=(recK x q s).2.length:=GE (f:=fun s t=>recT x.bl t s) (fun s t=>zei) _ s
theorem pm5 (x y1 y2 y3aa y4aa y5aa:Nat × HObj) (r:q7):(x::y1::y2::y3aa::y4aa::y5aa::r).Perm (y1::y2::y3aa::y4aa::y5aa::([x]++r)) :=
 (List.perm_append_comm (l₁:=[x]) (l₂:=[y1,y2,y3aa,y4aa,y5aa])).append_right r
theorem pm6 (x y1 y2 y3aa y4aa y5aa z:Nat × HObj) (r:q7) {T:q7} (h:T=y1::y2::y3aa::y4aa::y5aa::([x]++r)):Ab.HSub T (x::y1::y2::y3aa::y4aa::y5aa::([z]++r)) :=
 ⟨y1::y2::y3aa::y4aa::y5aa::x::z::r,(List.perm_append_comm (l₁:=[x]) (l₂:=[y1,y2,y3aa,y4aa,y5aa])).append_right (z::r),by
  subst h
  exact((((((((List.Sublist.refl r).cons z).cons_cons x).cons_cons y5aa).cons_cons y4aa).cons_cons y3aa).cons_cons y2).cons_cons y1)⟩
abbrev znO:Cfg:=⟨fun n=>n==1||n==4||n==5,fun n=>n==4||n==1000006||n==2000033||n==1000014||n==2000069||n==2000004||n==1000017||n==2000081⟩
theorem zdq (K B M:Nat) (a:KA) (k:KV) (N:Nat) (hk:ZB a k) (hI:wW k.mo N k.M) (hm8:k.mo<=8) (hN:N<=12000000) :
  q6 Tryz.prog 54 [.av .ptr (.ptr K KpT [])] (kpH K B M a k) fun r H'=>∃Hm x Rw,ZO (kT k.M).2 x Rw/\r=.tup [(StS,x),(HdT,.map (some Hm))]/\Ab.HSub ((Hm,yJ (kT k.M).1)::(Rw++kpH K B M a k)) H':=by
 refine q6.nodup fun hnd=>?_
 have hne:=dP hnd
 have hkK:=zqN K B M a k
 have hg:=QM K B M a k
 have hke:=kA (K:=K) (B:=B) (M:=M) hk
 have hkl:=GV hI
 obtain⟨ks,hks⟩:∃ks,ks=yB (k.M.L.map Prod.fst):=⟨_,rfl⟩
 have hksl:ks.length<=1000000:=by rw[hks,(y9 _).1.length_eq,List.length_map];omega
 have hed:kD ks=.sl .no (ks.map qK):=rfl
 obtain⟨R,hR⟩:∃R,R=kT k.M:=⟨_,rfl⟩
 have hRl:R.2.length<=N:=by rw[hR];exact Nat.le_trans (V0 _) (G5 hI)
 obtain⟨G,hG⟩:∃G:Nat->wI,G=fun i=>(ks.take i).foldl (fun s q=>recK k.M q s) ([],[]):=⟨_,rfl⟩
 have hG0:G 0=([],[]):=by rw[hG];rfl
 have hGn:G ks.length=R:=by rw[hG,hR,hks];simp[kT]
 have hGs:∀i (h:i<ks.length),G (i+1)=recK k.M ks[i] (G i):=fun i h=>by rw[hG];simp only[List.take_succ_eq_append_getElem h,List.foldl_append,List.foldl_cons,List.foldl_nil]
 have hGl:∀i,(G i).2.length<=N:=fun i=>by
  refine Nat.le_trans ?_ hRl
  rw[hG,hR,hks]
  exact WO (f:=fun s q=>recK k.M q s) (fun s q=>zjx) _ _ i
 rw[<-hR]
 refine zov Tryz.func54 znO fun imm0 w0=>?_
 simp (disch:=omega) [zz]
 intro b1 hb1 b4 h41 hb4 Hm hH4 hH1 hHk b5 h5H h54 h51 hb5
 have hb1K:¬b1=K:=fun e=>hb1 (e▸hkK)
 have hb4K:¬b4=K:=fun e=>hb4 (e▸hkK)
 have hb5K:¬b5=K:=fun e=>hb5 (e▸hkK)
 have hHmK:¬Hm=K:=fun e=>hHk (e▸hkK)
 simp (disch:=omega) [zz,h5H,h54,h51,hH4,hH1,h41,hb1K,hb4K,hb5K,hHmK,hg]
 refine dX K B M a k hk (by omega) (fun p hp=>(hI.tr p hp).1) [(b5,.var HdT (.map (some Hm))),(Hm,yJ []),(b4,.var StS .nsl),(b1,.var .ptr (.ptr K KpT []))] (List.perm_append_comm (l₁:=[_,_,_,_])) (by simp[qH]) (by simp[q9,TV.er,AV.er]) ?_
 rw[<-hks,hed]
 simp (disch:=omega) [zz]
 refine AT.loop' (α:=Nat × AV × q7 × List Nat) (fun p=>St.of [(1,.av .ptr (.ptr b1 .ptr [])),(4,.av .ptr (.ptr b4 StS [])),(5,.av .ptr (.ptr b5 HdT [])),(21,.av DgS (.sl .no (ks.map qK))),(22,.av (.int .i64) (.i .i64 ks.length)),(23,.av (.int .i64) (.i .i64 p.1))] [] (fun _=>0) ((b5,.var HdT (.map (some Hm)))::(Hm,yJ (G p.1).1)::(b4,.var StS p.2.1)::(b1,.var .ptr (.ptr K KpT []))::(p.2.2.1++kpH K B M a k)) p.2.2.2)
  (fun p=>p.1<=ks.length/\ZO (G p.1).2 p.2.1 p.2.2.1) (fun p=>ks.length-p.1) (0,.nsl,[],[]) ?_ ?_ ?_
 ·apply Le.of<;>simp[le9,hG0,yJ,zdD]<;>try omega
 ·exact⟨by simp,by rw[hG0];exact .inl ⟨rfl,rfl,rfl⟩⟩
 rintro⟨i,x,Rw,dfs⟩ ⟨hi,hx⟩ KL hN' hE
 simp only at hi hx hN'
 refine AT.nod fun hnd2=>?_
 refine zrd znO ?_
 by_cases hlt:i<ks.length
 rotate_left
 ·have hie:i=ks.length:=by omega
  subst hie
  have hlt':¬(ks.length:Int)<ks.length:=by omega
  rw[hGn]at hx
  have hre:=hx.er
  have hxe:=hx.xer
  simp (disch:=omega) [zz,hlt']
  refine hE _ _ (by simp) ?_
  rw[hGn]
  simp (disch:=omega) [zz,h5H,h54,h51,hH4,hH1,h41,Tryz.f54,hxe.1,hxe.2,hre,hke]
  exact⟨Hm,x,Rw,hx,⟨rfl,rfl⟩,HSub.of_sub (((((List.Sublist.refl _).cons _).cons _).cons_cons _).cons _)⟩
 have hlt':(i:Int)<ks.length:=by omega
 have hgk:=vY ks i hlt
 have hGi:=hGs i hlt
 obtain⟨q,hq⟩:∃q,q=ks[i]:=⟨_,rfl⟩
 rw[<-hq]at hgk hGi
 have hof:=C5 q k.mo a.D a.E a.cs hk.cels
 rw[hk.abs]at hof
 simp only[St.of,q7.keys_cons,List.nodup_cons]at hnd2
 have hgR:=zfj hnd2.2.2.2.2
 simp (disch:=omega) [zz,hlt',hgk,h5H,h54,h51,hH4,hH1,h41,hb1K,hb4K,hb5K,hHmK]
 refine j6.of [0,1,2,3,4,5,6] [] (by kernel_rfl) ?_
 simp (disch:=omega) [zz,hlt',hgk,h5H,h54,h51,hH4,hH1,h41,hb1K,hb4K,hb5K,hHmK,hgR]
 (repeat with_reducible refine om ?_)
 refine QQ (DbH a.D a.E k.mo a.cs) _ (zq4 ((b5,.var HdT (.map (some Hm)))::(Hm,yJ (G i).1)::(b4,.var StS x)::(b1,.var .ptr (.ptr K KpT []))::Rw) K B M a k) hof rfl rfl (by simp) (by simp[q9,TV.er,AV.er]) ?_
 simp (disch:=omega) [zz]
 (repeat with_reducible refine om ?_)
 obtain⟨T,hT⟩:∃T,T=getD k.M.L q:=⟨_,rfl⟩
 have hTl:T.length<=8:=by rw[hT];exact Nat.le_trans (hI.row q) hm8
 have hTg:∀t∈T,TrG t:=fun t ht=>(C9 hI (hT▸ht)).1
 have hte:qU T=.sl .no (trs T):=rfl
 rw[<-hT]
 refine qM (R:=fun r H'=>∃c,r=.av .func (.fn 164 [.ptr c TsT []])/\H'=[(c,bxO T)]) [] ((b5,.var HdT (.map (some Hm)))::(Hm,yJ (G i).1)::(b4,.var StS x)::(b1,.var .ptr (.ptr K KpT []))::(Rw++kpH K B M a k)) (by simp) rfl (by simp[qH]) (by simp) ?_ ?_
 ·rw[hte]
  simpa[TV.er,AV.er]using zfK T
 rintro r' H' ⟨c,rfl,rfl⟩ hnd3
 refine⟨(c,bxO T)::(b5,.var HdT (.map (some Hm)))::(Hm,yJ (G i).1)::(b4,.var StS x)::(b1,.var .ptr (.ptr K KpT []))::(Rw++kpH K B M a k),HSub.refl _,?_⟩
 simp (disch:=omega) [zz]
 (repeat with_reducible refine om ?_)
 have hRe:=ZO.er (l:=(G i).2) hx
 have hgGl:=hGl (i+1)
 obtain⟨G2aa,hG2aa⟩:∃G2aa:Nat->wI,G2aa=fun m=>(T.reverse.take m).foldl (fun s t=>recT k.M.bl t s) (G i):=⟨_,rfl⟩
 have hG20:G2aa 0=G i:=by rw[hG2aa];rfl
 have hG2n:G2aa T.length=G (i+1):=by
  rw[hG2aa,hGi]
  show (T.reverse.take T.length).foldl _ _=_
  rw[List.take_of_length_le (by simp),hT];rfl
 have hG2s:∀m (h:m<T.length),G2aa (m+1)=recT k.M.bl (T[T.length-1-m]'(by omega)) (G2aa m):=fun m h=>by
  rw[hG2aa]
  simp only[List.take_succ_eq_append_getElem (show m<T.reverse.length by simpa using h),List.foldl_append,List.foldl_cons,List.foldl_nil,List.getElem_reverse]
 have hG2l:∀m,(G2aa m).2.length<=N:=fun m=>by
  refine Nat.le_trans ?_ hgGl
  rw[hG2aa,hGi,hT]
  exact WO (f:=fun s t=>recT k.M.bl t s) (fun s t=>zei) _ _ m
 clear hG2aa hof
 obtain⟨FH,hFH⟩:∃FH:Dig->Dig,FH=id:=⟨_,rfl⟩
 refine AT.absE (fun E=>E 1=.av .ptr (.ptr b1 .ptr [])/\E 4=.av .ptr (.ptr b4 StS [])/\E 5=.av .ptr (.ptr b5 HdT [])/\E 21=.av DgS (.sl .no (ks.map qK))/\E 22=.av (.int .i64) (.i .i64 ks.length)/\E 23=.av (.int .i64) (.i .i64 i)/\E 33=.av .func (.fn 164 [.ptr c TsT []])) (by simp) ?_
 rintro E ⟨hE1,hE4,hE5,hE21,hE22,hE23,hE33⟩
 refine AT.range (gf:=164) rfl (by simpa using hE33) rfl (by simp) ?_
 intro y D r i0 w1 hy hrec hready hpend hpar has hbo
 simp only[q7.keys_cons,List.mem_cons,not_or]at hy
 obtain⟨hyc,hy5,hyH,hy4,hy1,hyR⟩:=hy
 have hyK:¬y=K:=fun e=>hyR (by rw[q7.keys_app];exact List.mem_append_right _ (e▸hkK))
 refine⟨(c,bxO T)::(y,.lrec r i0 w1)::(b5,.var HdT (.map (some Hm)))::(Hm,yJ (G i).1)::(b4,.var StS x)::(b1,.var .ptr (.ptr K KpT []))::(Rw++kpH K B M a k),[],fun t H'=>t=.tup []/\∃H1,(∃x2 Rw2,ZO (G2aa T.length).2 x2 Rw2/\H1=(y,.lrec r i0 w1)::(b5,.var HdT (.map (some Hm)))::(Hm,yJ (G2aa T.length).1)::(b4,.var StS x2)::(b1,.var .ptr (.ptr K KpT []))::(Rw2++kpH K B M a k))/\H'=(c,bxO T)::H1,?_,?_,?_⟩
 ·rw[List.append_nil]
  exact List.Perm.swap _ _ _
 ·have hle:∀(s:wI) (x2:AV) (Rw2:q7),ZO s.2 x2 Rw2->q7.er ((y,.lrec r i0 w1)::(b5,.var HdT (.map (some Hm)))::(Hm,yJ s.1)::(b4,.var StS x2)::(b1,.var .ptr (.ptr K KpT []))::(Rw2++kpH K B M a k))=(y,.lrec r i0 w1)::(b5,.var HdT (.map (some Hm)))::(Hm,yJ s.1)::(b4,.var StS x2)::(b1,.var .ptr (.ptr K KpT []))::(Rw2++kpH K B M a k):=fun s x2 Rw2 h=>by
   simp only[q7.er_cons,zp0,HObj.er_var,h.xer.1,q7.er_app,h.er,hke]
   rfl
  have he:=hle (G i) x Rw hx
  rw[q7.er_cons,he,zlT]
  refine zmz (G:=fun m H=>∃x2 Rw2,ZO (G2aa m).2 x2 Rw2/\H=(y,.lrec r i0 w1)::(b5,.var HdT (.map (some Hm)))::(Hm,yJ (G2aa m).1)::(b4,.var StS x2)::(b1,.var .ptr (.ptr K KpT []))::(Rw2++kpH K B M a k)) y c T (by omega) ?_ ?_ _ ⟨x,Rw,by rw[hG20];exact hx,by rw[hG20]⟩
  ·rintro m H ⟨x2,Rw2,h2,rfl⟩
   exact hle (G2aa m) x2 Rw2 h2
  ·rintro m hm H ⟨x2,Rw2,hx2,rfl⟩
   have hGm:=hG2s m hm
   have hGml:=hG2l (m+1)
   have htg:=hTg _ (List.getElem_mem (show T.length-1-m<T.length by omega))
   obtain⟨t,ht⟩:∃t,t=T[T.length-1-m]'(by omega):=⟨_,rfl⟩
   rw[<-ht]at hGm htg |-
   have hrd:=YC.of_round (l:=y) hrec hready (args:=[.av (.int .i64) (.i .i64 (T.length-1-m:Nat)),.av TrT (q5 t)]) (H:=(b5,.var HdT (.map (some Hm)))::(Hm,yJ (G2aa m).1)::(b4,.var StS x2)::(b1,.var .ptr (.ptr K KpT []))::(Rw2++kpH K B M a k)) (R:=fun rr H'=>rr=.av .bool (.b true)/\∃x3 Rw3,ZO (G2aa (m+1)).2 x3 Rw3/\Ab.HSub ((y,.lrec r i0 w1)::(b5,.var HdT (.map (some Hm)))::(Hm,yJ (G2aa (m+1)).1)::(b4,.var StS x3)::(b1,.var .ptr (.ptr K KpT []))::(Rw3++kpH K B M a k)) H') (by rw[hpar];rfl) (by rw[hpar];simp) (fun imm w=>?_)
   ·exact zhA hrd fun rr H' ⟨e1,x3,Rw3,e2,e3⟩ _=>⟨_,e3,e1,x3,Rw3,e2,rfl⟩
   obtain⟨ρ,hρ⟩:∃ρ:Loop,ρ={ r with state:=.busy }:=⟨_,rfl⟩
   have hrl:∀z:Loop,z={ ρ with state:=.ready,pending:=none }->z=r:=by
    rintro _ rfl;rw[hρ];exact vN hready hpend
   simp only[J7]
   rw[<-hρ]
   rw[has,hbo,hpar]
   refine AT.nod fun hnd4=>?_
   refine zrd znO ?_
   simp (disch:=omega) [zz,Z7,DJ,hE1,hE4,hE5]
   simp only[q7.keys_cons,List.nodup_cons]at hnd4
   have htD:=htg.1
   have hmt:qF t.outs=.sl .no (t.outs.map qS):=rfl
   obtain⟨G3aa,hG3aa⟩:∃G3aa:Nat->wI,G3aa=fun j=>(t.outs.take j).foldl (fun s m=>recM k.M.bl m s) (G2aa m):=⟨_,rfl⟩
   have hG30:G3aa 0=G2aa m:=by rw[hG3aa];rfl
   have hG3n:G2aa (m+1)=((G3aa t.outs.length).1,(G3aa t.outs.length).2++[yS t]):=by
    rw[hGm,hG3aa]
    simp only[List.take_length]
    rfl
   have hG3s:∀j (h:j<t.outs.length),G3aa (j+1)=recM k.M.bl t.outs[j] (G3aa j):=fun j h=>by
    rw[hG3aa]
    simp only[List.take_succ_eq_append_getElem h,List.foldl_append,List.foldl_cons,List.foldl_nil]
   have hG3l:∀j,(G3aa j).2.length<=(G3aa t.outs.length).2.length:=fun j=>by
    rw[hG3aa]
    simp only[List.take_length]
    exact WO (f:=fun s m=>recM k.M.bl m s) (fun s m=>zeo) _ _ j
   rw[hG3n]at hGml
   simp only[List.length_append,List.length_cons,List.length_nil]at hGml
   clear hG3aa
   have hol:t.outs.length<=1000000000:=by have:=(Q3 htg.2).2;omega
   refine zrd znO ?_
   simp (disch:=omega) [zz,q5,hmt]
   refine AT.loop' (α:=Nat × AV × q7) (fun p=>St.of [(1,.av .ptr (.ptr b1 .ptr [])),(4,.av .ptr (.ptr b4 StS [])),(5,.av .ptr (.ptr b5 HdT [])),(9,.loc 9 []),(37,.av (.slice 77) (.sl .no (t.outs.map qS))),(38,.av (.int .i64) (.i .i64 t.outs.length)),(39,.av (.int .i64) (.i .i64 p.1))] [(9,(TrT,q5 t))] (fun _=>0) ((y,.lrec ρ i0 w1)::(b5,.var HdT (.map (some Hm)))::(Hm,yJ (G3aa p.1).1)::(b4,.var StS p.2.1)::(b1,.var .ptr (.ptr K KpT []))::(p.2.2++kpH K B M a k)))
    (fun p=>p.1<=t.outs.length/\ZO (G3aa p.1).2 p.2.1 p.2.2) (fun p=>t.outs.length-p.1) (0,x2,Rw2) ?_ ?_ ?_
   ·apply Le.of<;>simp[le9,hG30,hmt,hE1,hE4,hE5]<;>try omega
   ·exact⟨by simp,by rw[hG30];exact hx2⟩
   rintro⟨j,x3,Rw3⟩ ⟨hj,hx3⟩ KL3 hN3 hE3'
   simp only at hj hx3 hN3
   refine AT.nod fun hnd5=>?_
   simp only[St.of,q7.keys_cons,List.nodup_cons,List.mem_cons,not_or]at hnd5
   have hgR3:=zfj hnd5.2.2.2.2.2
   have hj3l:=hG3l j
   refine zrd znO ?_
   by_cases hltj:j<t.outs.length
   rotate_left
   ·have hje:j=t.outs.length:=by omega
    subst hje
    have hltj':¬(t.outs.length:Int)<t.outs.length:=by omega
    have hby:=zcg htg.W.1 htg.1
    have hbt:wO t=.tup [(.str,.s (WI t)),(.int .i64,.i .i64 0)]:=by unfold wO WI;rw[if_pos htg.2,if_pos htg.2]
    have hrw:=zjj t htg.1
    have htE:=QP t
    obtain⟨TE,hTE⟩:∃TE,TE=q5 t:=⟨_,rfl⟩
    rw[<-hTE]at hby htE
    simp (disch:=omega) [zz,hltj']
    refine hE3' _ _ (by simp) ?_
    rw[<-hTE]
    simp (disch:=omega) [zz]
    refine YE hby rfl rfl (by simp) (by simp[q9,TV.er,htE]) ?_
    rw[hbt]
    simp (disch:=omega) [zz]
    refine j6.of [0,1,2,3,4,5,6] [] (by kernel_rfl) ?_
    simp (disch:=omega) [zz,h5H,h54,h51,hH4,hH1,h41,hy5,hyH,hy4,hy1]
    (repeat with_reducible refine om ?_)
    refine XF hrw rfl rfl (by simp) (by simp[q9,coC,TV.er,AV.er,AV.ers,Tok.k]) ?_
    have hls:∀l:List (List UInt8),(qG l).length=l.length:=wP
    obtain⟨S,hS⟩:∃S,S=G3aa t.outs.length:=⟨_,rfl⟩
    rw[<-hS]at hx3 hGml hG3n |-
    have hend:∀x4aa Rw4,ZO (S.2++[yS t]) x4aa Rw4->ZO (G2aa (m+1)).2 x4aa Rw4:=fun x4aa Rw4 h=>by rw[hG3n];exact h
    have hG21:(G2aa (m+1)).1=S.1:=by rw[hG3n]
    have her:∀r',(HObj.lrec r' i0 w1).er=HObj.lrec r' i0 w1:=fun _=>rfl
    rcases hx3 with⟨h30,rfl,rfl⟩|⟨b,cap,jk,hjk,hcap,rfl,rfl⟩
    ·simp (disch:=omega) [zz]
     (repeat with_reducible refine om ?_)
     intro b cap n1 n2 n3 n4 n5 n6 hcap
     have n1':¬y=b:=fun e=>n1 e.symm
     have n4':¬b4=b:=fun e=>n4 e.symm
     rw[h30]at hend
     have hX:=hend _ _ (ZO.new hcap (b:=b))
     have hoe:=hX.oer
     simp (disch:=omega) [zz,n1,n2,n3,n4,n5,n1',n4',hy4,h54,hH4,hy5,hyH,hy1]
     (repeat with_reducible refine om ?_)
     simp (disch:=omega) [zz,YS,VB,n1,n1',hoe,hke,her,hrl,q7.er_app,q7.er_cons]
     rw[hrl _ rfl,hG21]
     exact⟨_,_,hX,HSub.of_perm (pm5 _ _ _ _ _ _ _)⟩
    ·have hcl:(qG S.2++jk).length=cap:=by rw[List.length_append,hls];exact hcap
     obtain⟨⟨_,_,_,_,ny⟩,⟨_,_,_,n5⟩,⟨_,_,nH⟩,⟨_,n4⟩,n1,_⟩:=hnd5
     have hbm:b∈q7.keys ([(b,DN cap S.2 jk)]++kpH K B M a k):=by simp[q7.keys]
     have hyb:¬y=b:=fun e=>ny (e▸hbm)
     have h5b:¬b5=b:=fun e=>n5 (e▸hbm)
     have hHb:¬Hm=b:=fun e=>nH (e▸hbm)
     have h4b:¬b4=b:=fun e=>n4 (e▸hbm)
     have h1b:¬b1=b:=fun e=>n1 (e▸hbm)
     have hyb':¬b=y:=fun e=>hyb e.symm
     simp (disch:=omega) [zz,DN,hcl,hyb,h5b,hHb,h4b,h1b,hy4,h54,hH4]
     (repeat with_reducible refine om ?_)
     refine⟨fun hc=>?_,fun hc b' cap' q1 q2 q3 q4 q5aa q6aa q7aa hc'=>?_⟩
     ·(repeat with_reducible refine om ?_)
      have hX:=hend _ _ (ZO.in (b:=b) hjk hcap hc)
      have hoe:=hX.oer
      simp (disch:=omega) [zz,YS,VB,hyb,hyb',hoe,hke,her,hrl,q7.er_app,q7.er_cons]
      rw[hrl _ rfl,hG21]
      exact⟨_,_,hX,HSub.refl _⟩
     ·have q1':¬y=b':=fun e=>q1 e.symm
      have q4':¬b4=b':=fun e=>q4 e.symm
      have hX:=hend _ _ (ZO.out (b:=b') (j:=jk) hc')
      have hoe:=hX.oer
      have hoe2:=ziK (cap:=cap) (l:=S.2) hjk
      unfold DN at hoe2
      simp (disch:=omega) [zz,hyb,h5b,hHb,h4b,h1b,hy4,h54,hH4,q1,q2,q3,q4,q5aa,q6aa,q1',q4']
      (repeat with_reducible refine om ?_)
      simp (disch:=omega) [zz,YS,VB,q1,q1',hoe,hoe2,hke,her,hrl,q7.er_app,q7.er_cons]
      rw[hrl _ rfl,hG21]
      exact⟨_,_,hX,pm6 _ _ _ _ _ _ _ _ rfl⟩
   have hltj':(j:Int)<t.outs.length:=by omega
   have hgm:=XJ t.outs j hltj
   have hGj:=hG3s j hltj
   have hj4l:=hG3l (j+1)
   obtain⟨m1,hm1⟩:∃m1,m1=t.outs[j]:=⟨_,rfl⟩
   rw[<-hm1]at hgm hGj
   have hdl:∀p,k.M.bl.find? (fun p=>decide (p.1=m1.sum))=some p->p.2.length<=1000000000:=fun p hp=>by
    have h1:=zb5 (UQ hp).1
    have h2:=cM p.2
    have h3:=hI.le
    simp only[wtB]at h1
    omega
   simp (disch:=omega) [zz,hltj',hgm,h5H,h54,h51,hH4,hH1,h41,hb1K,hb4K,hb5K,hHmK,hgR3,qS,hy5,hyH,hy4,hy1,hyK]
   (repeat with_reducible refine om ?_)
   refine QQ (stB a.S a.T k.M.bl) _ (zoD ((y,.lrec ρ i0 w1)::(b5,.var HdT (.map (some Hm)))::(Hm,yJ (G3aa j).1)::(b4,.var StS x3)::(b1,.var .ptr (.ptr K KpT []))::Rw3) K B M a k) (CL a.S a.T hne.TS k.M.bl m1.sum) rfl rfl (by simp) (by simp[q9,TV.er,AV.er]) ?_
   have hfd:=pO m1.sum (G3aa j).1
   by_cases hh:kE m1.sum k.M.bl=true
   rotate_left
   ·have hh':kE m1.sum k.M.bl=false:=by simpa using hh
    have hnone:k.M.bl.find? (fun p=>decide (p.1=m1.sum))=none:=by
     unfold kE at hh';simpa using hh'
    have hG5:G3aa (j+1)=G3aa j:=by rw[hGj];unfold recM;rw[hnone]
    simp (disch:=omega) [zz,hh']
    (repeat with_reducible refine om ?_)
    refine hN3 _ (j+1,x3,Rw3) ?_ ⟨by simp only;omega,by simp only;rw[hG5];exact hx3⟩ (by simp only;omega)
    apply Le.of<;>simp[le9,hG5]<;>try omega
   obtain⟨p,hp⟩:∃p,k.M.bl.find? (fun p=>decide (p.1=m1.sum))=some p:=by
    unfold kE at hh;exact Option.isSome_iff_exists.1 hh
   by_cases hin:m1.sum∈(G3aa j).1
   ·have hG5:G3aa (j+1)=G3aa j:=by rw[hGj];unfold recM;rw[hp];simp only;rw[if_pos hin]
    rw[if_pos hin]at hfd
    simp (disch:=omega) [zz,hh,h5H,h54,h51,hH4,hH1,h41,hy5,hyH,hy4,hy1,yJ,hfd]
    (repeat with_reducible refine om ?_)
    refine hN3 _ (j+1,x3,Rw3) ?_ ⟨by simp only;omega,by simp only;rw[hG5];exact hx3⟩ (by simp only;omega)
    apply Le.of<;>simp[le9,hG5,yJ]<;>try omega
   rw[if_neg hin]at hfd
   have hG5:G3aa (j+1)=((G3aa j).1++[m1.sum],(G3aa j).2++[wX p.2]):=by rw[hGj];unfold recM;rw[hp];simp only;rw[if_neg hin]
   have hpd:=hdl p hp
   have hrw:=zj0 p.2 hpd
   have hpt:=zeT m1.sum (G3aa j).1 hin
   simp (disch:=omega) [zz,hh,hp,h5H,h54,h51,hH4,hH1,h41,hy5,hyH,hy4,hy1,yJ,hfd,hpt]
   (repeat with_reducible refine om ?_)
   refine j6.of [0,1,2,3,4,5,6] [] (by kernel_rfl) ?_
   simp (disch:=omega) [zz,h5H,h54,h51,hH4,hH1,h41,hy5,hyH,hy4,hy1]
   (repeat with_reducible refine om ?_)
   refine XF hrw rfl rfl (by simp) (by simp[q9,coC,TV.er,AV.er,AV.ers,Tok.k]) ?_
   have hls:∀l:List (List UInt8),(qG l).length=l.length:=wP
   have hend:∀x4aa Rw4,ZO ((G3aa j).2++[wX p.2]) x4aa Rw4->ZO (G3aa (j+1)).2 x4aa Rw4:=fun x4aa Rw4 h=>by rw[hG5];exact h
   rcases hx3 with⟨h30,rfl,rfl⟩|⟨b,cap,jk,hjk,hcap,rfl,rfl⟩
   ·simp (disch:=omega) [zz]
    (repeat with_reducible refine om ?_)
    intro b cap n1 n2 n3 n4 n5 n6 hcap
    have n1':¬y=b:=fun e=>n1 e.symm
    have n4':¬b4=b:=fun e=>n4 e.symm
    rw[h30]at hend
    simp (disch:=omega) [zz,n1,n2,n3,n4,n5,n1',n4',hy4,h54,hH4]
    (repeat with_reducible refine om ?_)
    refine hN3 _ (j+1,.msl b 9 0 1 cap,_) ?_ ⟨by simp only;omega,hend _ _ (ZO.new hcap)⟩ (by simp only;omega)
    refine Le.ofP ?_ ?_ ?_ ?_ (HSub.of_perm (by simp only[hG5,yJ];exact pm5 _ _ _ _ _ _ _))<;>simp[k8,z1,hG5,yJ]
   ·have hcl:(qG (G3aa j).2++jk).length=cap:=by rw[List.length_append,hls];exact hcap
    obtain⟨⟨_,_,_,_,ny⟩,⟨_,_,_,n5⟩,⟨_,_,nH⟩,⟨_,n4⟩,n1,_⟩:=hnd5
    have hbm:b∈q7.keys ([(b,DN cap (G3aa j).2 jk)]++kpH K B M a k):=by simp[q7.keys]
    have hyb:¬y=b:=fun e=>ny (e▸hbm)
    have h5b:¬b5=b:=fun e=>n5 (e▸hbm)
    have hHb:¬Hm=b:=fun e=>nH (e▸hbm)
    have h4b:¬b4=b:=fun e=>n4 (e▸hbm)
    have h1b:¬b1=b:=fun e=>n1 (e▸hbm)
    simp (disch:=omega) [zz,DN,hcl,hyb,h5b,hHb,h4b,h1b,hy4,h54,hH4]
    (repeat with_reducible refine om ?_)
    refine⟨fun hc=>?_,fun hc b' cap' q1 q2 q3 q4 q5aa q6aa q7aa hc'=>?_⟩
    ·(repeat with_reducible refine om ?_)
     refine hN3 _ (j+1,.msl b 9 0 ((G3aa j).2.length+1) cap,_) ?_ ⟨by simp only;omega,hend _ _ (ZO.in hjk hcap hc)⟩ (by simp only;omega)
     apply Le.of<;>simp[le9,hG5,yJ]<;>try omega
    ·have q1':¬y=b':=fun e=>q1 e.symm
     have q4':¬b4=b':=fun e=>q4 e.symm
     simp (disch:=omega) [zz,hyb,h5b,hHb,h4b,h1b,hy4,h54,hH4,q1,q2,q3,q4,q5aa,q6aa,q1',q4']
     (repeat with_reducible refine om ?_)
     refine hN3 _ (j+1,.msl b' 9 0 ((G3aa j).2.length+1) cap',_) ?_ ⟨by simp only;omega,hend _ _ (ZO.out (j:=jk) hc')⟩ (by simp only;omega)
     refine Le.ofP ?_ ?_ ?_ ?_ (pm6 _ _ _ _ _ _ _ _ ?_)<;>simp[k8,z1,hG5,yJ]
     all_goals rfl
 ·rintro t H' ⟨rfl,H1,⟨x2,Rw2,hx2,rfl⟩,rfl⟩ hnd6
  refine⟨r,(c,bxO T)::(b5,.var HdT (.map (some Hm)))::(Hm,yJ (G2aa T.length).1)::(b4,.var StS x2)::(b1,.var .ptr (.ptr K KpT []))::(Rw2++kpH K B M a k),HSub.of_perm (by rw[List.append_nil];exact List.Perm.swap _ _ _),by rw[hready];simp,?_⟩
  rw[hpend]
  rw[hG2n]at hx2 |-
  simp (disch:=omega) [zz,dQ,hE1,hE4,hE5,hE21,hE22,hE23]
  refine hN' _ (i+1,x2,Rw2,D::dfs) ?_ ⟨by simp only;omega,hx2⟩ (by simp only;omega)
  apply Le.of<;>simp[le9,hE1,hE4,hE5,hE21,hE22,hE23]<;>try omega
end Go.Proofs.YtognnffjdckalaaGreatDoor
