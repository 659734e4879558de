/- A trace of bytes: the document. No condition. -/
import Derived.Test.YtognnffjdckalaaGreatDoorP48ToP44
set_option linter.unusedSimpArgs false
set_option linter.unusedVariables false
set_option linter.unusedSectionVars false
set_option maxHeartbeats 64000000
set_option maxRecDepth 100000
namespace Go.Proofs.YtognnffjdckalaaGreatDoor
open Go Go.Ab
open Classical
section
variable [Sel] [SelPow] [SelErr]
noncomputable def ZK (s:List UInt8):TV:=.tup [(q8 Tryz.prog 53,qK (if s.length=32 then s else kZ)),(.bool,.b (decide (s.length=32)))]
theorem zaU (s:List UInt8) (hs:s.length<=1000000000):PC Tryz.prog 136 [.av .str (.s s)] (ZK s):=by
 refine zow Tryz.func136 cf0 fun imm0 w0=>?_
 by_cases h32:s.length=32
 rotate_left
 ·have h32':¬(s.length:Int)=32:=by omega
  simp (disch:=omega) [zz,h32',Tryz.f136,ZK,h32,zY]
 have h32':(s.length:Int)=32:=by omega
 simp (disch:=omega) [zz,h32,h32']
 refine AT.loop' (α:=Nat) (fun k=>St.of [(0,.av .str (.s s)),(2,.loc 2 []),(4,.loc 4 []),(5,.av (.int .i64) (.i .i64 k))] [(2,(q8 Tryz.prog 53,qK kZ)),(4,(q8 Tryz.prog 53,qK (s.take k++List.replicate (32-k) 0)))] (fun _=>0) [])
  (fun k=>k<=32) (fun k=>32-k) 0 ?_ ?_ ?_
 ·apply Le.of<;>simp[le9,qK,kZ]<;>try omega
 ·simp
 rintro k hk KL hN hE
 refine zrd cf0 ?_
 by_cases hlt:k<32
 ·have hlt':(k:Int)<32:=by omega
  have hks:k<s.length:=by omega
  have hst:(s.take k++List.replicate (32-k) 0).set k s[k]=s.take (k+1)++List.replicate (32-(k+1)) 0:=by
   have e:(s.take k).length=k:=by rw[List.length_take];omega
   rw[List.set_append_right _ _ (by omega),e,Nat.sub_self,show 32-k=(32-(k+1))+1 by omega,List.replicate_succ,List.set_cons_zero,List.take_succ_eq_append_getElem hks,List.append_assoc]
   rfl
  obtain⟨c,hc⟩:∃c,s[k]=c:=⟨_,rfl⟩
  rw[hc]at hst
  have hlen:(s.take k++List.replicate (32-k) 0).length=32:=by simp;omega
  obtain⟨w,hw⟩:∃w,s.take k++List.replicate (32-k) 0=w:=⟨_,rfl⟩
  rw[hw]at hst hlen |-
  have hst2:(w.map fun b:UInt8=>AV.i .u8 b.toNat).set k (.i .u8 c.toNat)=(s.take (k+1)++List.replicate (32-(k+1)) 0).map fun b:UInt8=>AV.i .u8 b.toNat:=by
   rw[<-hst,List.map_set]
  simp (disch:=omega) [zz,hlt',hlt,hks,hc,qK,hlen]
  refine hN _ (k+1) ?_ (by omega) (by omega)
  rw[hst2]
  apply Le.of<;>simp[le9,qK]<;>try omega
 have hk32:k=32:=by omega
 subst hk32
 simp (disch:=omega) [zz]
 refine hE _ _ (by simp) ?_
 have htk:s.take 32=s:=List.take_of_length_le (by omega)
 simp (disch:=omega) [zz,Tryz.f136,ZK,h32,htk,qK,AV.ers_eq,Function.comp_def]
theorem ze0 (n:Nat):rG n []=some ([],[]):=by cases n<;>rfl
theorem p6:∀(m:Nat) {n:Nat} {l:List (List UInt8)} {x:List yH × List Made},l.length<=m->rG n l=some x->(∀y∈l,y.length<=1000000000)->(∀y∈x.1,y.path.length<=1000000000)/\∀y∈x.2,y.path.length<=1000000000
 | m,n,[],x,_,h,_=>by rw[ze0]at h;cases h;simp
 | m,n,[p],x,_,h,_=>by cases n<;>simp[rG]at h<;>subst h<;>simp
 | 0,n,p::s::r,x,hm,h,hb=>by simp at hm
 | m+1,0,p::s::r,x,hm,h,hb=>by
  unfold rG at h
  split at h
  ·obtain⟨y,hy,rfl⟩:=Option.map_eq_some_iff.1 h
   obtain⟨h1,h2⟩:=p6 m (by simp at hm;omega) hy (fun z hz=>hb z (by simp[hz]))
   refine⟨h1,fun z hz=>?_⟩
   rcases List.mem_cons.1 hz with rfl|hz
   ·exact hb p (by simp)
   ·exact h2 z hz
  ·cases h
 | m+1,n+1,p::s::r,x,hm,h,hb=>by
  unfold rG at h
  split at h
  ·obtain⟨y,hy,rfl⟩:=Option.map_eq_some_iff.1 h
   obtain⟨h1,h2⟩:=p6 m (by simp at hm;omega) hy (fun z hz=>hb z (by simp[hz]))
   refine⟨fun z hz=>?_,h2⟩
   rcases List.mem_cons.1 hz with rfl|hz
   ·exact hb p (by simp)
   ·exact h1 z hz
  ·split at h
   ·obtain⟨y,hy,rfl⟩:=Option.map_eq_some_iff.1 h
    obtain⟨h1,h2⟩:=p6 m (by simp at hm;omega) hy (fun z hz=>hb z (by simp[hz]))
    refine⟨fun z hz=>?_,h2⟩
    rcases List.mem_cons.1 hz with rfl|hz
    ·exact hb p (by simp)
    ·exact h1 z hz
   ·cases h
abbrev zsh:Cfg:=⟨fun _=>false,fun n=>n==124||n==135⟩
theorem zld (b:List UInt8) (hb:b.length<=1000000000):PC Tryz.prog 80 [.av .str (.s b)] (yX (jJ b)):=by
 obtain⟨hl1,hl2⟩:=vE b
 obtain⟨X,hX⟩:∃X,jJ b=X:=⟨_,rfl⟩
 rw[hX]
 unfold jJ at hX
 have htx:=zdf b hb
 obtain⟨L,hL⟩:∃L,kO b=L:=⟨_,rfl⟩
 rw[hL]at hX htx hl1 hl2
 obtain⟨l,e⟩:=L
 simp only at hX hl1 hl2
 replace hl2:l.length<=1000000000:=by omega
 replace hl1:∀x∈l,x.length<=1000000000:=fun x hx=>Nat.le_trans (hl1 x hx) hb
 refine zow Tryz.func80 zsh fun imm0 w0=>?_
 simp (disch:=omega) [zz]
 refine zcv htx ?_
 by_cases he:e=0
 rotate_left
 ·rw[if_neg he]at hX
  simp (disch:=omega) [zz,zW,he]
  simp (disch:=omega) [zz,Tryz.f80,<-hX,yX,tr0,q5,qE,qF,zY]
 subst he
 rw[if_pos rfl,cW]at hX
 match l,hl1,hl2,hX with
 | [],_,_,hX =>
  simp only[uI]at hX
  simp (disch:=omega) [zz,zW,qG]
  simp (disch:=omega) [zz,Tryz.f80,<-hX,yX,tr0,q5,qE,qF,zY]
 | [k],_,_,hX =>
  simp only[uI]at hX
  simp (disch:=omega) [zz,zW,qG]
  simp (disch:=omega) [zz,Tryz.f80,<-hX,yX,tr0,q5,qE,qF,zY]
 | k::c::r,hl1,hl2,hX =>
  have hk:=hl1 k (by simp)
  have hc:=hl1 c (by simp)
  have hrm:∀x∈r,x.length<=1000000000:=fun x hx=>hl1 x (by simp[hx])
  have hrl:r.length<=1000000000:=by simp at hl2;omega
  have h2:¬(r.length:Int)+1+1<2:=by omega
  have hm:((r.length:Int)+1+1).tmod 2=((r.length % 2:Nat):Int):=by
   rw[Int.tmod_eq_emod_of_nonneg (by omega)];omega
  simp only[uI]at hX
  by_cases ho:r.length % 2=1
  ·rw[if_pos (.inl ho)]at hX
   simp (disch:=omega) [zz,zW,qG,h2,hm,ho]
   simp (disch:=omega) [zz,Tryz.f80,<-hX,yX,tr0,q5,qE,qF,zY]
  have ho0:r.length % 2=0:=by omega
  simp (disch:=omega) [zz,zW,qG,h2,hm,ho0]
  refine⟨by omega,?_⟩
  refine zcv (zaU k hk) ?_
  have hfin:∀ {x:qD × Int},x=(tr0,3)->yX x=.tup [(q8 Tryz.prog 56,.agg [.agg (List.replicate 32 (.i .u8 0)),.sl .no [],.sl .no []]),(.int .i64,.i .i64 3)]:=by
   rintro x rfl
   simp only[yX,tr0,q5,qE,qF,zY,List.map_nil]
  cases hi:YF c with
  | none =>
   rw[hi]at hX
   have hX3:X=(tr0,3):=by rw[<-hX];split<;>rfl
   have hf:=hfin hX3
   by_cases h32:k.length=32
   ·simp (disch:=omega) [zz,ZK,h32]
    refine⟨by omega,?_⟩
    refine zcv (c6 c hc) ?_
    simp (disch:=omega) [zz,hi,yU]
    simp (disch:=omega) [zz,Tryz.f80,hf]
   ·simp (disch:=omega) [zz,ZK,h32]
    refine⟨by omega,?_⟩
    refine zcv (c6 c hc) ?_
    simp (disch:=omega) [zz,hi,yU]
    simp (disch:=omega) [zz,Tryz.f80,hf]
  | some n =>
  rw[hi]at hX
  simp only at hX
  by_cases h32:k.length=32
  rotate_left
  ·have hX3:X=(tr0,3):=by rw[<-hX,if_pos (.inr h32)]
   have hf:=hfin hX3
   simp (disch:=omega) [zz,ZK,h32]
   refine⟨by omega,?_⟩
   refine zcv (c6 c hc) ?_
   simp (disch:=omega) [zz,hi,yU]
   simp (disch:=omega) [zz,Tryz.f80,hf]
  rw[if_neg (by omega)]at hX
  simp (disch:=omega) [zz,ZK,h32]
  refine⟨by omega,?_⟩
  refine zcv (c6 c hc) ?_
  by_cases hn0:n<0
  ·have hX3:X=(tr0,3):=by rw[<-hX,if_pos (.inl hn0)]
   have hf:=hfin hX3
   simp (disch:=omega) [zz,hi,yU,hn0]
   simp (disch:=omega) [zz,Tryz.f80,hf]
  by_cases hn1:(r.length:Int)+1+1<n
  ·have hX3:X=(tr0,3):=by rw[<-hX,if_pos (.inr (by omega))]
   have hf:=hfin hX3
   simp (disch:=omega) [zz,hi,yU,hn0,hn1]
   simp (disch:=omega) [zz,Tryz.f80,hf]
  by_cases hn2:(r.length:Int)+1+1<2+2*n
  ·have hX3:X=(tr0,3):=by rw[<-hX,if_pos (.inr (by omega))]
   have hf:=hfin hX3
   simp (disch:=omega) [zz,hi,yU,hn0,hn1,hn2]
   simp (disch:=omega) [zz,Tryz.f80,hf]
  rw[if_neg (by omega)]at hX
  obtain⟨m,rfl⟩:∃m:Nat,n=(m:Int):=⟨n.toNat,by omega⟩
  simp only[Int.toNat_natCast]at hX
  simp (disch:=omega) [zz,hi,yU,hn0,hn1,hn2]
  obtain⟨G,hG0⟩:∃G,rG m r=G:=⟨_,rfl⟩
  rw[hG0]at hX
  obtain⟨L,hLd⟩:∃L,L=k::c::r:=⟨_,rfl⟩
  have hLl:L.length=r.length+2:=by rw[hLd];rfl
  refine AT.loop' (α:=Nat × List yH × List Made × List (List UInt8) × Nat) (fun x=>St.of [(2,.loc 2 []),(4,.av (.slice 9) (.sl .no (qG L))),(6,.loc 6 []),(9,.av (.int .i64) (.i .i64 m)),(11,.loc 11 []),(12,.av (.int .i64) (.i .i64 x.2.2.2.2))] [(2,(q8 Tryz.prog 56,.agg [qK kZ,.sl .full [],.sl .full []])),(6,(q8 Tryz.prog 56,.agg [qK kZ,.sl .full [],.sl .full []])),(11,(q8 Tryz.prog 56,.agg [qK k,.sl (tkR 123 x.2.1.length) (x.2.1.map qV),.sl (tkR 134 x.2.2.1.length) (x.2.2.1.map qS)]))] (fun y=>if y=123 then x.2.1.length else if y=134 then x.2.2.1.length else 0) [])
   (fun x=>x.2.2.2.2=2+2*x.1/\x.2.2.2.1=r.drop (2*x.1)/\2*x.1<=r.length/\x.2.1.length=min x.1 m/\x.2.2.1.length=x.1-m/\((rG (m-x.1) x.2.2.2.1).map fun y=>(x.2.1++y.1,x.2.2.1++y.2))=G/\∀y∈x.2.2.2.1,y.length<=1000000000) (fun x=>r.length-2*x.1) (0,[],[],r,2) ?_ ?_ ?_
  ·apply Le.of<;>simp[le9,zY,tkR,hLd,qG]<;>try omega
  ·exact⟨rfl,rfl,by simp,by simp,by simp,by simp[hG0],hrm⟩
  rintro⟨j,aR,aM,rs,q⟩ ⟨hq,hrs,hj,haR,haM,hG,hrsm⟩ KL hN hE
  simp only at hq hrs hj haR haM hG hrsm hN
  refine zrd zsh ?_
  by_cases hlt:2*j<r.length
  rotate_left
  ·have hje:2*j=r.length:=by omega
   have hq':¬(q:Int)<L.length:=by omega
   rw[List.drop_eq_nil_of_le (by omega)]at hrs
   subst hrs
   rw[ze0]at hG
   simp only[Option.map_some,List.append_nil]at hG
   subst hG
   simp only at hX
   obtain⟨hp1,hp2⟩:=p6 r.length (Nat.le_refl _) hG0 hrm
   have htp:TrP ⟨k,aR,aM⟩:=⟨⟨by simp only;omega,fun y hy=>Nat.le_trans (hp1 y hy) (by decide)⟩,by simp only;omega,fun y hy=>Nat.le_trans (hp2 y hy) (by decide)⟩
   simp (disch:=omega) [zz,hq']
   refine hE _ _ (by simp) ?_
   simp (disch:=omega) [zz]
   refine YE (vT _ htp hp1 hp2) rfl rfl (by simp) (by simp[q9,TV.er,q5,AV.er,AV.ers,AV.ers_eq,qE,qF,List.map_map,Function.comp_def]) ?_
   unfold zij at hX
   by_cases hck:qY ⟨k,aR,aM⟩=0
   ·rw[if_pos hck]at hX
    simp (disch:=omega) [zz,hck]
    simp (disch:=omega) [zz,Tryz.f80,<-hX,yX,q5,qE,qF,AV.ers_eq,Function.comp_def]
   ·rw[if_neg hck]at hX
    simp (disch:=omega) [zz,hck]
    simp (disch:=omega) [zz,Tryz.f80,<-hX,yX,tr0,q5,qE,qF,zY]
  have hrl2:rs.length=r.length-2*j:=by rw[hrs,List.length_drop]
  match rs,hrl2,hrs,hG,hrsm with
  | [],h,_,_,_=>simp at h;omega
  | [_],h,_,_,_=>simp at h;omega
  | p::s::rest,hrl2,hrs,hG,hrsm =>
  have hps:p.length<=1000000000:=hrsm p (by simp)
  have hss:s.length<=1000000000:=hrsm s (by simp)
  have hmr:∀y∈rest,y.length<=1000000000:=fun y hy=>hrsm y (by simp[hy])
  have hrest':rest=r.drop (2*(j+1)):=by
   have:=congrArg (List.drop 2) hrs
   rw[List.drop_drop]at this
   simpa[Nat.mul_add]using this
  have hrl3:rest.length+2=r.length-2*j:=by simpa using hrl2
  have hLq:L[q]?=some p:=by
   rw[hq,hLd,show 2+2*j=2*j+1+1 by omega,List.getElem?_cons_succ,List.getElem?_cons_succ]
   have:(r.drop (2*j))[0]?=some p:=by rw[<-hrs];rfl
   simpa using this
  have hLq1:L[q+1]?=some s:=by
   rw[hq,hLd,show 2+2*j+1=(2*j+1)+1+1 by omega,List.getElem?_cons_succ,List.getElem?_cons_succ]
   have:(r.drop (2*j))[1]?=some s:=by rw[<-hrs];rfl
   simpa using this
  have hgp:(qG L)[q]?=some (.s p):=by simp[qG,hLq]
  have hgs:(qG L)[q+1]?=some (.s s):=by simp[qG,hLq1]
  have hqL:q<L.length:=by omega
  have hqL1:q+1<L.length:=by omega
  have hq':(q:Int)<L.length:=by omega
  have hge:(0:Int)<=(q:Int)+1:=by omega
  have hq1':(q:Int)+1<L.length:=by omega
  simp (disch:=omega) [zz,hq',hq1',hgs,hqL1,hge]
  refine zcv (zaU s hss) ?_
  by_cases hjm:j<m
  ·have hjm':(q:Int)<2+2*m:=by omega
   have hmj:m-j=(m-(j+1))+1:=by omega
   rw[hmj]at hG
   unfold rG at hG
   by_cases hs0:s=[]
   ·subst hs0
    rw[if_pos rfl,Option.map_map]at hG
    rcases Nat.eq_zero_or_pos aR.length with hz|hz
    ·obtain rfl:=List.length_eq_zero_iff.1 hz
     have htk:tkR 123 0=.full:=rfl
     simp (disch:=omega) [zz,ZK,hjm',hgs,hqL1,hge,hq1',hgp,hqL,hq',htk]
     simp (disch:=omega) [zz,qQ]
     (repeat with_reducible refine om ?_)
     refine hN _ (j+1,[⟨p,false,kZ⟩],aM,rest,q+2) ?_ ⟨by simp only;omega,hrest',by simp only;omega,by simp;omega,by simp;omega,by simpa[Function.comp_def]using hG,hmr⟩ (by simp only;omega)
     apply Le.of<;>simp[le9,tkR]<;>try omega
     all_goals (intro x;by_cases hx:x=123<;>simp[hx])
    ·obtain⟨z,hz⟩:∃z,aR.length=z+1:=⟨aR.length-1,by omega⟩
     have htk:tkR 123 aR.length=.own 123 (z+1):=by rw[hz];rfl
     simp (disch:=omega) [zz,ZK,hjm',hgs,hqL1,hge,hq1',hgp,hqL,hq',htk]
     simp (disch:=omega) [zz,qQ,hz]
     (repeat with_reducible refine om ?_)
     refine hN _ (j+1,aR++[⟨p,false,kZ⟩],aM,rest,q+2) ?_ ⟨by simp only;omega,hrest',by simp only;omega,by simp;omega,by simp;omega,by simpa[Function.comp_def]using hG,hmr⟩ (by simp only;omega)
     apply Le.of<;>simp[le9,tkR,hz]<;>try omega
     all_goals (intro x;by_cases hx:x=123<;>simp[hx])
   rw[if_neg hs0]at hG
   by_cases hs32:s.length=32
   ·rw[if_pos hs32,Option.map_map]at hG
    rcases Nat.eq_zero_or_pos aR.length with hz|hz
    ·obtain rfl:=List.length_eq_zero_iff.1 hz
     have htk:tkR 123 0=.full:=rfl
     simp (disch:=omega) [zz,ZK,hs32,hjm',hgp,hqL,hq',htk]
     simp (disch:=omega) [zz,qQ]
     (repeat with_reducible refine om ?_)
     refine hN _ (j+1,[⟨p,true,s⟩],aM,rest,q+2) ?_ ⟨by simp only;omega,hrest',by simp only;omega,by simp;omega,by simp;omega,by simpa[Function.comp_def]using hG,hmr⟩ (by simp only;omega)
     apply Le.of<;>simp[le9,tkR]<;>try omega
     all_goals (intro x;by_cases hx:x=123<;>simp[hx])
    ·obtain⟨z,hz⟩:∃z,aR.length=z+1:=⟨aR.length-1,by omega⟩
     have htk:tkR 123 aR.length=.own 123 (z+1):=by rw[hz];rfl
     simp (disch:=omega) [zz,ZK,hs32,hjm',hgp,hqL,hq',htk]
     simp (disch:=omega) [zz,qQ,hz]
     (repeat with_reducible refine om ?_)
     refine hN _ (j+1,aR++[⟨p,true,s⟩],aM,rest,q+2) ?_ ⟨by simp only;omega,hrest',by simp only;omega,by simp;omega,by simp;omega,by simpa[Function.comp_def]using hG,hmr⟩ (by simp only;omega)
     apply Le.of<;>simp[le9,tkR,hz]<;>try omega
     all_goals (intro x;by_cases hx:x=123<;>simp[hx])
   ·rw[if_neg hs32]at hG
    simp only[Option.map_none]at hG
    subst hG
    simp only at hX
    have hf:=hfin hX.symm
    simp (disch:=omega) [zz,ZK,hs32,hjm',hgs,hqL1,hge,hq1',hs0]
    refine hE _ _ (by simp) ?_
    simp (disch:=omega) [zz,Tryz.f80,hf,zY]
  ·have hjm':¬(q:Int)<2+2*m:=by omega
   have hm0:m-(j+1)=0:=by omega
   rw[show m-j=0 by omega]at hG
   unfold rG at hG
   by_cases hs32:s.length=32
   ·rw[if_pos hs32,Option.map_map]at hG
    rcases Nat.eq_zero_or_pos aM.length with hz|hz
    ·obtain rfl:=List.length_eq_zero_iff.1 hz
     have htk:tkR 134 0=.full:=rfl
     simp (disch:=omega) [zz,ZK,hs32,hjm',hgp,hqL,hq',htk]
     simp (disch:=omega) [zz,qQ]
     (repeat with_reducible refine om ?_)
     refine hN _ (j+1,aR,[⟨p,s⟩],rest,q+2) ?_ ⟨by simp only;omega,hrest',by simp only;omega,by simp;omega,by simp;omega,by simpa[Function.comp_def,hm0]using hG,hmr⟩ (by simp only;omega)
     apply Le.of<;>simp[le9,tkR]<;>try omega
     all_goals (intro x;by_cases hx:x=134<;>simp[hx])
    ·obtain⟨z,hz⟩:∃z,aM.length=z+1:=⟨aM.length-1,by omega⟩
     have htk:tkR 134 aM.length=.own 134 (z+1):=by rw[hz];rfl
     simp (disch:=omega) [zz,ZK,hs32,hjm',hgp,hqL,hq',htk]
     simp (disch:=omega) [zz,qQ,hz]
     (repeat with_reducible refine om ?_)
     refine hN _ (j+1,aR,aM++[⟨p,s⟩],rest,q+2) ?_ ⟨by simp only;omega,hrest',by simp only;omega,by simp;omega,by simp;omega,by simpa[Function.comp_def,hm0]using hG,hmr⟩ (by simp only;omega)
     apply Le.of<;>simp[le9,tkR,hz]<;>try omega
     all_goals (intro x;by_cases hx:x=134<;>simp[hx])
   ·rw[if_neg hs32]at hG
    simp only[Option.map_none]at hG
    subst hG
    simp only at hX
    have hf:=hfin hX.symm
    simp (disch:=omega) [zz,ZK,hs32,hjm']
    refine hE _ _ (by simp) ?_
    simp (disch:=omega) [zz,Tryz.f80,hf,zY]
theorem ze2:∀(m:Nat) {n:Nat} {l:List (List UInt8)} {x:List yH × List Made},l.length<=m->rG n l=some x->(∀y∈x.1,y.sum.length=32)/\∀y∈x.2,y.sum.length=32
 | m,n,[],x,_,h=>by rw[ze0]at h;cases h;simp
 | m,n,[p],x,_,h=>by cases n<;>simp[rG]at h<;>subst h<;>simp
 | 0,n,p::s::r,x,hm,h=>by simp at hm
 | m+1,0,p::s::r,x,hm,h=>by
  unfold rG at h
  split at h
  ·rename_i h32
   obtain⟨y,hy,rfl⟩:=Option.map_eq_some_iff.1 h
   obtain⟨h1,h2⟩:=ze2 m (by simp at hm;omega) hy
   refine⟨h1,fun z hz=>?_⟩
   rcases List.mem_cons.1 hz with rfl|hz
   ·exact h32
   ·exact h2 z hz
  ·cases h
 | m+1,n+1,p::s::r,x,hm,h=>by
  unfold rG at h
  split at h
  ·obtain⟨y,hy,rfl⟩:=Option.map_eq_some_iff.1 h
   obtain⟨h1,h2⟩:=ze2 m (by simp at hm;omega) hy
   refine⟨fun z hz=>?_,h2⟩
   rcases List.mem_cons.1 hz with rfl|hz
   ·simp[kZ]
   ·exact h1 z hz
  ·split at h
   ·rename_i h32
    obtain⟨y,hy,rfl⟩:=Option.map_eq_some_iff.1 h
    obtain⟨h1,h2⟩:=ze2 m (by simp at hm;omega) hy
    refine⟨fun z hz=>?_,h2⟩
    rcases List.mem_cons.1 hz with rfl|hz
    ·exact h32
    ·exact h1 z hz
   ·cases h
theorem zfA {x:List UInt8} (hx:x.length<=1000000000) (h:(jJ x).2=0):TrW (jJ x).1/\TrD (jJ x).1/\qY (jJ x).1=0/\34<=x.length:=by
 obtain⟨hl1,hl2⟩:=vE x
 obtain⟨X,hX⟩:∃X,jJ x=X:=⟨_,rfl⟩
 rw[hX]at h |-
 unfold jJ at hX
 obtain⟨L,hL⟩:∃L,kO x=L:=⟨_,rfl⟩
 rw[hL]at hX hl1 hl2
 obtain⟨l,e⟩:=L
 simp only at hX hl1 hl2
 by_cases he:e=0
 rotate_left
 ·rw[if_neg he]at hX;rw[<-hX]at h;exact absurd h he
 subst he
 rw[if_pos rfl,cW]at hX
 have hrow:=PU hL
 match l,hl1,hl2,hX,hrow with
 | [],_,_,hX,_=>simp only[uI]at hX;rw[<-hX]at h;cases h
 | [k],_,_,hX,_=>simp only[uI]at hX;rw[<-hX]at h;cases h
 | k::c::r,hl1,hl2,hX,hrow =>
  simp only[uI]at hX
  by_cases ho:r.length % 2=1\/k.length≠32
  ·rw[if_pos ho]at hX;rw[<-hX]at h;cases h
  rw[if_neg ho]at hX
  simp only[not_or,Classical.not_not]at ho
  have h34:34<=x.length:=by
   rw[<-hrow,ZR]
   simp only[List.length_append,List.length_cons,ho.2]
   have h2:1<=(Lib.itoa ((32:Nat):Int)).length:=by
    rw[yR]
    have:=yK 32
    cases hc:Lib.decDigits 32 with
    | nil=>exact absurd hc this
    | cons=>simp
   omega
  cases hi:YF c with
  | none=>rw[hi]at hX;simp only at hX;rw[<-hX]at h;cases h
  | some n =>
  rw[hi]at hX
  simp only at hX
  by_cases hn:n<0\/(r.length:Int)<2*n
  ·rw[if_pos hn]at hX;rw[<-hX]at h;cases h
  rw[if_neg hn]at hX
  cases hG:rG n.toNat r with
  | none=>rw[hG]at hX;simp only at hX;rw[<-hX]at h;cases h
  | some y =>
  rw[hG]at hX
  simp only[zij]at hX
  by_cases hc:qY ⟨k,y.1,y.2⟩=0
  rotate_left
  ·rw[if_neg hc]at hX;rw[<-hX]at h;exact absurd h hc
  rw[if_pos hc]at hX
  rw[<-hX]
  have hrm:∀z∈r,z.length<=1000000000:=fun z hz=>Nat.le_trans (hl1 z (by simp[hz])) hx
  obtain⟨p1,p2⟩:=p6 r.length (Nat.le_refl _) hG hrm
  obtain⟨s1,s2⟩:=ze2 r.length (Nat.le_refl _) hG
  have hS:=X7 hc
  exact⟨⟨⟨⟨Nat.le_trans hS.1 (by decide),fun z hz=>Nat.le_trans (p1 z hz) (by decide)⟩,Nat.le_trans hS.2 (by decide),fun z hz=>Nat.le_trans (p2 z hz) (by decide)⟩,p1,p2⟩,⟨ho.2,s1,s2⟩,hc,h34⟩
theorem V7.fold {mo:Nat} (hm:1<=mo):∀ {ts:List qD} {n:Nat} {L:DbL},V7 n mo L->(∀t∈ts,TrW t/\TrD t)->V7 (n+ts.length) mo (ts.foldl (kU mo) L)
 | [],n,L,h,_=>h
 | x::r,n,L,h,h2=>by
  have:=V7.fold hm (ts:=r) (h.add hm (h2 x (by simp)).1 (h2 x (by simp)).2) fun t ht=>h2 t (List.mem_cons_of_mem _ ht)
  rw[List.foldl_cons,List.length_cons]
  rw[show n+(r.length+1)=n+1+r.length by omega]
  exact this
theorem V7.his {mo:Nat} (hm:1<=mo) {ts:List qD} (h:∀t∈ts,TrW t/\TrD t):V7 ts.length mo (znN mo ts):=by
 have:=V7.fold hm (ts:=ts) V7.nil h
 rw[Nat.zero_add]at this
 exact this
theorem zdu (u:Nat) (x:List UInt8):(Lib.decDigits u).length<=9->kS 0 0 (Lib.decDigits u++x)=kS (Lib.decDigits u).length u x:=by
 induction u using Nat.strongRecOn generalizing x with
 | ind u ih =>
  intro hl
  have key:∀d:Nat,d<10->(UInt8.ofNat (48+d)).toNat=48+d:=fun d hd=>by simp;omega
  have h58:∀d:Nat,d<10->¬UInt8.ofNat (48+d)=58:=fun d hd e=>by
   have:=congrArg UInt8.toNat e
   rw[key d hd]at this
   have h:(58:UInt8).toNat=58:=rfl
   omega
  by_cases h:u<10
  ·have e:Lib.decDigits u=[UInt8.ofNat (48+u)]:=by rw[Lib.decDigits,dif_pos h]
   rw[e]
   show kS 0 0 (UInt8.ofNat (48+u)::x)=kS 1 u x
   have h1:=key u h
   rw[kS,if_neg (by simp),if_neg (by simp only[QJ,h1,Bool.and_eq_false_iff,decide_eq_false_iff_not];omega),h1]
   congr 1;omega
  ·have e:Lib.decDigits u=Lib.decDigits (u / 10)++[UInt8.ofNat (48+u % 10)]:=by rw[Lib.decDigits,dif_neg h]
   have hl2:(Lib.decDigits u).length=(Lib.decDigits (u / 10)).length+1:=by rw[e];simp
   have hpos:0<(Lib.decDigits (u / 10)).length:=List.length_pos_iff.2 (yK _)
   have ih1:=ih (u / 10) (by omega) (UInt8.ofNat (48+u % 10)::x) (by omega)
   rw[hl2]
   rw[e,List.append_assoc]
   show kS 0 0 (Lib.decDigits (u / 10)++(UInt8.ofNat (48+u % 10)::x))=_
   rw[ih1]
   have h1:=key (u % 10) (by omega)
   have h2:=h58 (u % 10) (by omega)
   rw[kS,if_neg (fun e=>h2 e.1),if_neg (by simp only[QJ,h1,Bool.and_eq_false_iff,decide_eq_false_iff_not];omega),h1]
   congr 1;omega
theorem zs3 (u:Nat) (h:u<1000000000):(Lib.decDigits u).length<=9:=by
 have key:∀(k u:Nat),u<10 ^ (k+1)->(Lib.decDigits u).length<=k+1:=by
  intro k
  induction k with
  | zero=>intro u hu;rw[Lib.decDigits,dif_pos (by omega)];simp
  | succ k ih =>
   intro u hu
   rw[Lib.decDigits]
   split
   ·simp
   ·have:=ih (u / 10) (by rw[Nat.pow_succ]at hu;omega)
    simp;omega
 exact key 8 u (by omega)
theorem zn2 (s:List UInt8) (x:List UInt8) (h:s.length<1000000000):kS 0 0 (Lib.itoa s.length++58::(s++x))=.ok s.length (s++x):=by
 rw[yR,zdu _ _ (zs3 _ h)]
 have hpos:0<(Lib.decDigits s.length).length:=List.length_pos_iff.2 (yK _)
 rw[kS,if_pos ⟨rfl,hpos⟩]
theorem VR:∀(l:List (List UInt8)) (f:Nat) (out:List (List UInt8)),(∀s∈l,s.length<1000000000)->(k9 l).length<f->ZJ f out (k9 l)=(out++l,0)
 | [],f,out,_,hf=>by
  obtain⟨f,rfl⟩:∃g,f=g+1:=⟨f-1,by omega⟩
  simp[ZJ,k9]
 | s::l,f,out,hs,hf=>by
  obtain⟨f,rfl⟩:∃g,f=g+1:=⟨f-1,by omega⟩
  have hne:k9 (s::l)≠[]:=by rw[ZR];simp
  have hlen:(k9 l).length<f:=by rw[ZR]at hf;simp at hf;omega
  unfold ZJ
  rw[if_neg hne,ZR,zn2 s (k9 l) (hs s (by simp))]
  simp only
  rw[if_neg (by simp),List.take_left,List.drop_left,VR l f _ (fun x hx=>hs x (by simp[hx])) hlen]
  simp
theorem gU {l:List (List UInt8)} (h:∀s∈l,s.length<1000000000):kO (k9 l)=(l,0):=by
 have:=VR l ((k9 l).length+1) [] h (by omega)
 simpa[kO]using this
theorem zgR:∀(l:List Made),(∀m∈l,m.sum.length=32)->rG 0 (l.flatMap yL)=some ([],l)
 | [],_=>rfl
 | m::l,h=>by
  have ih:=zgR l fun x hx=>h x (by simp[hx])
  have h32:=h m (by simp)
  show rG 0 (m.path::m.sum::l.flatMap yL)=_
  rw[rG,if_pos h32,ih]
  rfl
theorem zgB:∀(l:List yH) (o:List Made),(∀r∈l,okS r)->(∀m∈o,m.sum.length=32)->rG l.length (l.flatMap y7++o.flatMap yL)=some (l,o)
 | [],o,_,ho=>by simpa using zgR o ho
 | r::l,o,h,ho=>by
  have ih:=zgB l o (fun x hx=>h x (by simp[hx])) ho
  obtain⟨h32,hz⟩:=h r (by simp)
  obtain⟨p,is,s⟩:=r
  simp only at h32 hz
  show rG (l.length+1) (p::(if is then s else [])::(l.flatMap y7++o.flatMap yL))=_
  cases is with
  | true =>
   have hne:s≠[]:=by intro e;rw[e]at h32;cases h32
   rw[if_pos rfl,rG,if_neg hne,if_pos h32,ih];rfl
  | false =>
   rw[if_neg (by simp),rG,if_pos rfl,ih,hz rfl];rfl
theorem zmN {t:qD} (hd:TrD t) (hc:qY t=0):uI (jK t)=(t,0):=by
 have hr:=zgB t.reads t.outs (zdO hd hc) hd.2.2
 obtain⟨h1,h2⟩:=Q3 hc
 have hi:YF (Lib.itoa t.reads.length)=some (t.reads.length:Int):=zcN (by omega) (by omega)
 have hl:(t.reads.flatMap y7++t.outs.flatMap yL).length=2*t.reads.length+2*t.outs.length:=by rw[List.length_append,d6,PE]
 have hk:=hd.1
 have e:jK t=t.key::Lib.itoa t.reads.length::(t.reads.flatMap y7++t.outs.flatMap yL):=by simp[jK]
 rw[e]
 simp only[uI,hi]
 rw[if_neg (by omega),if_neg (by omega),Int.toNat_natCast,hr]
 simp only[zij]
 rw[if_pos (show qY ⟨t.key,t.reads,t.outs⟩=0 from hc)]
theorem zht {t:qD} (hd:TrD t) (h:qY t=0):∀x∈jK t,x.length<=1040:=by
 obtain⟨h1,h2⟩:=Q3 h
 obtain⟨h3,h4⟩:=JO h
 obtain⟨d1,d2,d3⟩:=hd
 intro x hx
 simp only[jK,List.mem_append,List.mem_cons,List.mem_flatMap,List.not_mem_nil,or_false]at hx
 rcases hx with((rfl|rfl)|⟨r,hr,hx⟩)|⟨m,hm,hx⟩
 ·omega
 ·have:=wN t.reads.length
  rw[yR];omega
 ·have:=ZV (ZW h3 r hr).1
  simp only[y7,List.mem_cons,List.not_mem_nil,or_false]at hx
  rcases hx with rfl|rfl
  ·exact this
  ·split
   ·have:=d2 r hr;omega
   ·simp
 ·have hu:=KG h4 m hm
  simp only[wF,Bool.and_eq_true]at hu
  have:=ZV hu.1
  simp only[yL,List.mem_cons,List.not_mem_nil,or_false]at hx
  rcases hx with rfl|rfl
  ·exact this
  ·have:=d3 m hm;omega
theorem znw {t:qD} (hd:TrD t) (hc:qY t=0):jJ (k9 (jK t))=(t,0):=by
 have h:=gU (l:=jK t) fun s hs=>by have:=zht hd hc s hs;omega
 unfold jJ
 rw[h,if_pos rfl,cW,zmN hd hc]
theorem zh0 {mo:Nat} {t:qD} {ts:List qD} (h:ts.Nodup):(yG mo t ts).Nodup:=by
 unfold yG
 refine List.Nodup.sublist (List.take_sublist _ _) (List.nodup_cons.2 ⟨?_,?_⟩)
 ·rw[zcK,List.mem_filter];simp
 ·exact List.Pairwise.filter _ h
theorem zlr {t:qD} (ht:TrP t) (hc:qY t=0):TrW t:=by
 obtain⟨h3,h4⟩:=JO hc
 refine⟨ht,fun r hr=>Nat.le_trans (ZV (ZW h3 r hr).1) (by decide),fun m hm=>?_⟩
 have hu:=KG h4 m hm
 simp only[wF,Bool.and_eq_true]at hu
 exact Nat.le_trans (ZV hu.1) (by decide)
theorem V7.mono {n n' mo:Nat} {L:DbL} (h:V7 n mo L) (hn:n<=n'):V7 n' mo L:=⟨h.ok,h.mem,Nat.le_trans h.len hn,h.row⟩
end
section
variable [Sel]
abbrev QW:TyD:=.struct [149,3]
def stE (l:List (Dig × List UInt8)):List (AV × AV):=l.map fun p=>(qK p.1,AV.s p.2)
noncomputable def stO (B M:Nat) (l:List (Dig × List UInt8)) (n:Int):q7:=[(B,.var QW (.agg [.map (some M),.i .i64 n])),(M,.map 53 9 (stE l))]
theorem GJ (d:Dig):∀l:List (Dig × List UInt8),yT (qK d) (stE l)=(l.find? fun p=>decide (p.1=d)).map fun p=>AV.s p.2
 | []=>rfl
 | (k,v)::l=>by
  have ih:=GJ d l
  simp only[stE,List.map_cons,yT,List.find?_cons,J4]at ih |-
  by_cases h:k=d
  ·simp[h]
  ·simp only[h,if_false,decide_false];exact ih
theorem ziJ (d:Dig) (x:List UInt8):∀l:List (Dig × List UInt8),(l.find? fun p=>decide (p.1=d))=none->JL (qK d) (.s x) (stE l)=stE (l++[(d,x)])
 | [],_=>rfl
 | (k,v)::l,h=>by
  rw[List.find?_cons]at h
  by_cases hk:k=d
  ·simp[hk]at h
  ·simp only[hk,decide_false]at h
   have ih:=ziJ d x l h
   simp only[stE,List.map_cons,JL,J4,hk,if_false,List.cons_append]at ih |-
   rw[ih]
@[simp] theorem zrg (l:List (Dig × List UInt8)):(stE l).map (fun p=>(p.1.er,p.2.er))=stE l:=by
 simp[stE,List.map_map,Function.comp_def,AV.er]
@[simp] theorem zqV (B M:Nat) (l:List (Dig × List UInt8)) (n:Int):(stO B M l n).er=stO B M l n:=by
 simp[stO,q7.er_cons,q7.er_nil,HObj.er_var,HObj.er_map,AV.erk,AV.erks]
abbrev ztg:Cfg:=⟨fun n=>n==3,fun _=>false⟩
theorem zoH:q6 Tryz.prog 28 [] [] fun r H'=>∃B M,M≠B/\r=.av .ptr (.ptr B QW [])/\H'=stO B M [] 0:=by
 refine zov Tryz.func28 ztg fun imm0 w0=>?_
 simp (disch:=omega) [zz]
 intro M B hB
 simp (disch:=omega) [zz,Tryz.f28]
 exact⟨B,M,fun e=>hB e.symm,rfl,by simp[stO,stE]⟩
def kY (d:Dig) (x:List UInt8) (l:List (Dig × List UInt8)):List (Dig × List UInt8):=match l.find? fun p=>decide (p.1=d)with
 | some _=>l
 | none=>l++[(d,x)]
abbrev zsr:Cfg:=⟨fun _=>false,fun n=>n==1000006⟩
theorem zj9 (B M:Nat) (hBM:M≠B) (l:List (Dig × List UInt8)) (n:Int) (d:Dig) :
  q6 Tryz.prog 42 [.av .ptr (.ptr B QW []),.av (q8 Tryz.prog 53) (qK d)] (stO B M l n) fun r H'=>r=.tup [(.str,.s (((l.find? fun p=>decide (p.1=d)).map Prod.snd).getD [])),(.bool,.b (l.find? fun p=>decide (p.1=d)).isSome)]/\H'=stO B M l n:=by
 have hBM':¬B=M:=fun e=>hBM e.symm
 have hfd:=GJ d l
 refine zov Tryz.func42 cf0 fun imm0 w0=>?_
 cases hf:l.find? (fun p=>decide (p.1=d))with
 | some p =>
  rw[hf]at hfd
  simp only[Option.map_some]at hfd
  simp (disch:=omega) [zz,stO,hBM,hBM',hfd]
  (repeat with_reducible refine om ?_)
  simp (disch:=omega) [zz,Tryz.f42]
 | none =>
  rw[hf]at hfd
  simp only[Option.map_none]at hfd
  simp (disch:=omega) [zz,stO,hBM,hBM',hfd]
  (repeat with_reducible refine om ?_)
  simp (disch:=omega) [zz,Tryz.f42]
end
end Go.Proofs.YtognnffjdckalaaGreatDoor
