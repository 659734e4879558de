/- What a reading of the arguments tells: traces, reads. No condition. -/
import Derived.Test.YtognnffjdckalaaGreatDoorP46
set_option linter.unusedSimpArgs false
set_option linter.unusedVariables false
set_option linter.unusedSectionVars false
set_option maxHeartbeats 64000000
set_option maxRecDepth 100000
namespace Go.Proofs.YtognnffjdckalaaGreatDoor
open Go Go.Ab
open Classical
section
variable [Sel]
theorem U0 {α:Type} {f:α->AV} {q:AV->Prop} {r:α->Prop} {xs:List AV} (h:∀y∈xs,q y) (hd:∀y,q y->∃a,y=f a/\r a):∃l:List α,xs=l.map f/\∀a∈l,r a:=by
 induction xs with
 | nil=>exact⟨[],rfl,by simp⟩
 | cons y ys ih =>
  obtain⟨a,ha,hr⟩:=hd y (h y (by simp))
  obtain⟨l,hl,hl2⟩:=ih fun z hz=>h z (by simp[hz])
  exact⟨a::l,by simp[ha,hl],by simpa using⟨hr,hl2⟩⟩
theorem zr8 {n:Nat} {x:AV} (h:WTy Tryz.prog (n+2) 53 x):∃d:Dig,x=qK d/\d.length=32:=by
 simp only[WTy,zqZ,ty5]at h
 obtain⟨xs,rfl,hlen,h⟩:=h
 obtain⟨l,hl,_⟩:=U0 (α:=UInt8) (f:=fun b=>AV.i .u8 b.toNat) (r:=fun _=>True) h (by
  rintro y ⟨m,rfl,hm⟩
  have hx:0<=m/\m<=255:=by simpa[Lit.wf,IntKind.min,IntKind.max,IntKind.signed,IntKind.bits]using hm
  refine⟨UInt8.ofNat m.toNat,?_,trivial⟩
  simp only[AV.i.injEq,true_and]
  have:(UInt8.ofNat m.toNat).toNat=m.toNat:=by simp;omega
  rw[this];omega)
 subst hl
 exact⟨l,rfl,by simpa using hlen⟩
def okR (r:yH):Prop:=r.sum.length=32/\r.path.length<=maxLen
theorem zoC {n:Nat} {x:AV} (h:WTy Tryz.prog (n+3) 82 x):∃r:yH,x=qV r/\okR r:=by
 rw[WTy]at h
 simp only[zta]at h
 obtain⟨xs,rfl,hlen,h⟩:=h
 match xs,hlen with
 | [a,b,c],_ =>
  have h1:=h 0 9 a rfl rfl
  have h2:=h 1 4 b rfl rfl
  have h3:=h 2 53 c rfl rfl
  simp only[WTy,ty9]at h1
  simp only[WTy,ty4]at h2
  obtain⟨s,rfl,hs⟩:=h1
  obtain⟨q,rfl⟩:=h2
  obtain⟨d,rfl,hd⟩:=zr8 h3
  exact⟨⟨s,q,d⟩,rfl,hd,hs⟩
theorem zmu {n:Nat} {x:AV} (h:WTy Tryz.prog (n+4) 43 x):∃l:List yH,x=qE l/\l.length<=maxLen/\∀r∈l,okR r:=by
 rw[WTy]at h
 simp only[zt7]at h
 obtain⟨xs,rfl,hlen,h⟩:=h
 obtain⟨l,rfl,h2⟩:=U0 h fun y hy=>zoC hy
 exact⟨l,rfl,by simpa using hlen,h2⟩
end
section
variable [Sel] [SelPow] [SelErr]
abbrev zey:TyD:=.struct [90,4]
def j7 (B:Nat) (l:List (List UInt8)) (bad:Bool):q7:=[(B,.var zey (.agg [.sl .no (qG l),.b bad]))]
@[simp] theorem zsJ (B:Nat) (l:List (List UInt8)) (bad:Bool):(j7 B l bad).er=j7 B l bad:=by
 simp[j7,q7.er_cons,q7.er_nil,HObj.er_var,AV.erk,AV.erks,Tok.k]
def cT (l:List (List UInt8)) (bad:Bool):List UInt8 × List (List UInt8) × Bool:=match l with
 | []=>([],[],true)
 | s::r=>(s,r,bad)
def pX (s:List UInt8):Dig:=(s++kZ).take 32
theorem cB {s:List UInt8} (h:s.length=32):pX s=s:=by unfold pX;rw[<-h,List.take_left]
theorem zap (s:List UInt8):(pX s).length=32:=by simp[pX,kZ]
def cD (l:List (List UInt8)) (bad:Bool):Dig × List (List UInt8) × Bool:=(pX (cT l bad).1,(cT l bad).2.1,(cT l bad).2.2||decide ((cT l bad).1.length≠32))
noncomputable def cN (l:List (List UInt8)) (bad:Bool):Int × List (List UInt8) × Bool:=match YF (cT l bad).1 with
 | some n=>if 0<=n/\n<=(((cT l bad).2.1.length / 2:Nat):Int) then(n,(cT l bad).2.1,(cT l bad).2.2) else(0,(cT l bad).2.1,true)
 | none=>(0,(cT l bad).2.1,true)
def cR (l:List (List UInt8)) (bad:Bool):yH × List (List UInt8) × Bool :=
 if (cT l bad).2.1.head?=some [] then(⟨(cT l bad).1,false,kZ⟩,(cT l bad).2.1.drop 1,(cT l bad).2.2)
 else(⟨(cT l bad).1,true,(cD (cT l bad).2.1 (cT l bad).2.2).1⟩,(cD (cT l bad).2.1 (cT l bad).2.2).2)
theorem UN (B:Nat) (l:List (List UInt8)) (bad:Bool) (hl:l.length<=1000000000) :
  q6 Tryz.prog 174 [.av .ptr (.ptr B zey [])] (j7 B l bad) fun r H'=>r=.av .str (.s (cT l bad).1)/\H'=j7 B (cT l bad).2.1 (cT l bad).2.2:=by
 refine zov Tryz.func174 cf0 fun imm0 w0=>?_
 cases l with
 | nil=>simp (disch:=omega) [zz,j7,qG,cT,Tryz.f174]
 | cons s r =>
  have hz:¬((r.length:Int)+1)=0:=by omega
  have h1:(1:Int)<=(r.length:Int)+1:=by omega
  have htk:List.take r.length (List.map AV.s r)=List.map AV.s r:=List.take_of_length_le (by simp)
  simp (disch:=omega) [zz,j7,qG,cT,hz,h1,htk]
  simp (disch:=omega) [zz,Tryz.f174,AV.ers_eq,Function.comp_def]
theorem PK (s:List UInt8):List.take 32 (List.map (fun b:UInt8=>AV.i .u8 b.toNat) s)++List.drop (min 32 s.length) [AV.i .u8 0,AV.i .u8 0,AV.i .u8 0,AV.i .u8 0,AV.i .u8 0,AV.i .u8 0,AV.i .u8 0,AV.i .u8 0,AV.i .u8 0,AV.i .u8 0,AV.i .u8 0,AV.i .u8 0,AV.i .u8 0,AV.i .u8 0,AV.i .u8 0,AV.i .u8 0,AV.i .u8 0,AV.i .u8 0,AV.i .u8 0,AV.i .u8 0,AV.i .u8 0,AV.i .u8 0,AV.i .u8 0,AV.i .u8 0,AV.i .u8 0,AV.i .u8 0,AV.i .u8 0,AV.i .u8 0,AV.i .u8 0,AV.i .u8 0,AV.i .u8 0,AV.i .u8 0]=(pX s).map fun b:UInt8=>AV.i .u8 b.toNat:=by
 show _++List.drop (min 32 s.length) ((List.replicate 32 (0:UInt8)).map fun b:UInt8=>AV.i .u8 b.toNat)=_
 unfold pX kZ
 rw[<-List.map_take,<-List.map_drop,<-List.map_append,List.take_append,List.drop_replicate,List.take_replicate]
 congr 3;omega
theorem zeY {s:List UInt8} (h:s.length=32):List.take 32 (List.map (fun b:UInt8=>AV.i .u8 b.toNat) s)=(pX s).map fun b:UInt8=>AV.i .u8 b.toNat:=by
 rw[cB h,List.take_of_length_le (by simp[h])]
abbrev zt0:Cfg:=⟨fun n=>n==3,fun _=>false⟩
theorem g8 (B:Nat) (l:List (List UInt8)) (bad:Bool) (hl:l.length<=1000000000) (hs:∀x∈l,x.length<=1000000000) :
  q6 Tryz.prog 171 [.av .ptr (.ptr B zey [])] (j7 B l bad) fun r H'=>r=.av (q8 Tryz.prog 53) (qK (cD l bad).1)/\H'=j7 B (cD l bad).2.1 (cD l bad).2.2:=by
 refine q6.drop (R:=fun r H'=>r=.av (q8 Tryz.prog 53) (qK (cD l bad).1)/\∃B2 o,H'=j7 B (cD l bad).2.1 (cD l bad).2.2++[(B2,o)]) ?_ ?_
 rotate_left
 ·rintro r H' ⟨rfl,B2,o,rfl⟩
  exact⟨_,List.sublist_append_left _ _,rfl,rfl⟩
 refine zov Tryz.func171 zt0 fun imm0 w0=>?_
 simp (disch:=omega) [zz,j7]
 intro B2 hB2
 have hB2':¬B=B2:=fun e=>hB2 e.symm
 obtain⟨s1,hs1⟩:∃s1,(cT l bad).1=s1:=⟨_,rfl⟩
 obtain⟨l1,hl1⟩:∃l1,(cT l bad).2.1=l1:=⟨_,rfl⟩
 obtain⟨b1,hb1⟩:∃b1,(cT l bad).2.2=b1:=⟨_,rfl⟩
 have hs1l:s1.length<=1000000000:=by
  rw[<-hs1]
  cases l with
  | nil=>simp[cT]
  | cons x r=>exact hs x (by simp)
 have hcd:cD l bad=(pX s1,l1,b1||decide (s1.length≠32)):=by simp only[cD,hs1,hl1,hb1]
 have htx:=UN B l bad hl
 rw[hs1,hl1,hb1]at htx
 rw[hcd]
 refine qM (R:=fun r H'=>r=.av .str (.s s1)/\H'=j7 B l1 b1) (j7 B l bad) [(B2,.var (.arr 32 5) (.agg [.i .u8 0,.i .u8 0,.i .u8 0,.i .u8 0,.i .u8 0,.i .u8 0,.i .u8 0,.i .u8 0,.i .u8 0,.i .u8 0,.i .u8 0,.i .u8 0,.i .u8 0,.i .u8 0,.i .u8 0,.i .u8 0,.i .u8 0,.i .u8 0,.i .u8 0,.i .u8 0,.i .u8 0,.i .u8 0,.i .u8 0,.i .u8 0,.i .u8 0,.i .u8 0,.i .u8 0,.i .u8 0,.i .u8 0,.i .u8 0,.i .u8 0,.i .u8 0]))] (by simp only[j7];exact List.Perm.swap _ _ _) rfl (by simp[qH]) (by simp) ?_ ?_
 ·simpa[TV.er,AV.er]using htx
 rintro r H' ⟨rfl,rfl⟩ _
 refine⟨_,HSub.refl _,?_⟩
 cases b1 with
 | true =>
  simp (disch:=omega) [zz,j7,hB2,hB2',PK]
  simp (disch:=omega) [zz,Tryz.f171,qK,AV.ers_eq,Function.comp_def,zap]
 | false =>
  by_cases h32:s1.length=32
  ·have h32':(s1.length:Int)=32:=by omega
   simp (disch:=omega) [zz,j7,hB2,hB2',h32,h32',PK,zeY h32]
   simp (disch:=omega) [zz,Tryz.f171,qK,AV.ers_eq,Function.comp_def,zap]
  ·have h32':¬(s1.length:Int)=32:=by omega
   simp (disch:=omega) [zz,j7,hB2,hB2',h32,h32',PK]
   simp (disch:=omega) [zz,Tryz.f171,qK,AV.ers_eq,Function.comp_def,zap]
theorem CH (l:List (List UInt8)) (bad:Bool):(cT l bad).2.1.length<=l.length:=by cases l<;>simp[cT]
theorem UW {l:List (List UInt8)} {bad:Bool} {x:List UInt8} (h:x∈(cT l bad).2.1):x∈l:=by
 cases l with
 | nil=>simp[cT]at h
 | cons s r=>simp only[cT]at h;exact List.mem_cons_of_mem _ h
theorem zih {l:List (List UInt8)} {bad:Bool} (hs:∀x∈l,x.length<=1000000000):(cT l bad).1.length<=1000000000:=by
 cases l with
 | nil=>simp[cT]
 | cons x r=>exact hs x (by simp)
theorem zh1 (B:Nat) (l:List (List UInt8)) (bad:Bool) (hl:l.length<=1000000000) (hs:∀x∈l,x.length<=1000000000) :
  q6 Tryz.prog 172 [.av .ptr (.ptr B zey [])] (j7 B l bad) fun r H'=>r=.av (.int .i64) (.i .i64 (cN l bad).1)/\H'=j7 B (cN l bad).2.1 (cN l bad).2.2:=by
 have htx:=UN B l bad hl
 have hs1l:=zih (bad:=bad) hs
 have hl1l:=CH l bad
 obtain⟨N,hN⟩:∃N,cN l bad=N:=⟨_,rfl⟩
 rw[hN]
 unfold cN at hN
 obtain⟨s1,hs1⟩:∃s1,(cT l bad).1=s1:=⟨_,rfl⟩
 obtain⟨l1,hl1⟩:∃l1,(cT l bad).2.1=l1:=⟨_,rfl⟩
 obtain⟨b1,hb1⟩:∃b1,(cT l bad).2.2=b1:=⟨_,rfl⟩
 rw[hs1,hl1,hb1]at hN htx
 rw[hs1]at hs1l
 rw[hl1]at hl1l
 refine zov Tryz.func172 cf0 fun imm0 w0=>?_
 simp (disch:=omega) [zz]
 refine zF (R:=fun r H'=>r=.av .str (.s s1)/\H'=j7 B l1 b1) rfl (by simp[qH]) (by simp) ?_ ?_
 ·simpa[TV.er,AV.er]using htx
 rintro r H' ⟨rfl,rfl⟩
 simp (disch:=omega) [zz]
 refine zcv (zqK s1 hs1l) ?_
 have hdiv:((l1.length:Int).tdiv 2)=(l1.length:Int) / 2:=Int.tdiv_eq_ediv_of_nonneg (by omega)
 cases hi:YF s1 with
 | none =>
  rw[hi]at hN
  simp only at hN
  simp (disch:=omega) [zz,yU,j7]
  simp (disch:=omega) [zz,Tryz.f172,<-hN]
 | some n =>
  rw[hi]at hN
  simp only at hN
  obtain⟨_,_,hn0,hn1⟩:=XL hi
  by_cases h0:n<0
  ·rw[if_neg (by omega)]at hN
   simp (disch:=omega) [zz,yU,j7,h0]
   simp (disch:=omega) [zz,Tryz.f172,<-hN]
  by_cases h1:(l1.length:Int) / 2<n
  ·rw[if_neg (by omega)]at hN
   simp (disch:=omega) [zz,yU,j7,h0,hdiv,h1]
   simp (disch:=omega) [zz,Tryz.f172,<-hN]
  ·rw[if_pos (by omega)]at hN
   simp (disch:=omega) [zz,yU,j7,h0,hdiv,h1]
   simp (disch:=omega) [zz,Tryz.f172,<-hN]
theorem zno (B:Nat) (l:List (List UInt8)) (bad:Bool) (hl:l.length<=1000000000) (hs:∀x∈l,x.length<=1000000000) :
  q6 Tryz.prog 173 [.av .ptr (.ptr B zey [])] (j7 B l bad) fun r H'=>r=.av (q8 Tryz.prog 82) (qV (cR l bad).1)/\H'=j7 B (cR l bad).2.1 (cR l bad).2.2:=by
 have htx:=UN B l bad hl
 have hl1l:=CH l bad
 have hm:∀x∈(cT l bad).2.1,x.length<=1000000000:=fun x hx=>hs x (UW hx)
 obtain⟨N,hN⟩:∃N,cR l bad=N:=⟨_,rfl⟩
 rw[hN]
 unfold cR at hN
 obtain⟨s1,hs1⟩:∃s1,(cT l bad).1=s1:=⟨_,rfl⟩
 obtain⟨l1,hl1⟩:∃l1,(cT l bad).2.1=l1:=⟨_,rfl⟩
 obtain⟨b1,hb1⟩:∃b1,(cT l bad).2.2=b1:=⟨_,rfl⟩
 rw[hs1,hl1,hb1]at hN htx
 rw[hl1]at hl1l hm
 have hdg:=g8 B l1 b1 (by omega) hm
 have htx2:=UN B l1 b1 (by omega)
 obtain⟨d,hd⟩:∃d,cD l1 b1=d:=⟨_,rfl⟩
 obtain⟨d1,d2,d3⟩:=d
 rw[hd]at hdg hN
 refine zov Tryz.func173 cf0 fun imm0 w0=>?_
 simp (disch:=omega) [zz]
 refine zF (R:=fun r H'=>r=.av .str (.s s1)/\H'=j7 B l1 b1) rfl (by simp[qH]) (by simp) ?_ ?_
 ·simpa[TV.er,AV.er]using htx
 rintro r H' ⟨rfl,rfl⟩
 cases hl2:l1 with
 | nil =>
  subst hl2
  simp (disch:=omega) [zz,j7,qG]
  refine zF (R:=fun r H'=>r=.av (q8 Tryz.prog 53) (qK d1)/\H'=j7 B d2 d3) rfl (by simp[qH]) (by simp) ?_ ?_
  ·simpa[TV.er,AV.er,j7,qG,AV.er,AV.ers_eq,Function.comp_def,AV.erk,AV.erks,q7.er_cons,q7.er_nil,HObj.er_var,Tok.k]using hdg
  rintro r' H' ⟨rfl,rfl⟩
  simp (disch:=omega) [zz,j7]
  simp (disch:=omega) [zz,Tryz.f173,<-hN,qV]
  rfl
 | cons x r =>
  subst hl2
  have hpos:(0:Int)<(r.length:Int)+1:=by omega
  by_cases hx:x=[]
  ·subst hx
   simp only[cT]at htx2
   rw[if_pos (by rfl)]at hN
   simp (disch:=omega) [zz,j7,qG,hpos]
   refine zF (R:=fun r' H'=>r'=.av .str (.s [])/\H'=j7 B r b1) rfl (by simp[qH]) (by simp) ?_ ?_
   ·simpa[TV.er,AV.er,j7,qG,AV.er,AV.ers_eq,AV.erk,AV.erks,AV.erks_eq,Function.comp_def,q7.er_cons,q7.er_nil,HObj.er_var,Tok.k]using htx2
   rintro r' H' ⟨rfl,rfl⟩
   simp (disch:=omega) [zz,j7]
   simp (disch:=omega) [zz,Tryz.f173,<-hN,qV,zY]
   rfl
  ·rw[if_neg (by simpa using hx)]at hN
   simp (disch:=omega) [zz,j7,qG,hpos,hx]
   refine zF (R:=fun r H'=>r=.av (q8 Tryz.prog 53) (qK d1)/\H'=j7 B d2 d3) rfl (by simp[qH]) (by simp) ?_ ?_
   ·simpa[TV.er,AV.er,j7,qG,AV.er,AV.ers_eq,Function.comp_def,AV.erk,AV.erks,q7.er_cons,q7.er_nil,HObj.er_var,Tok.k]using hdg
   rintro r' H' ⟨rfl,rfl⟩
   simp (disch:=omega) [zz,j7]
   simp (disch:=omega) [zz,Tryz.f173,<-hN,qV]
   rfl
end
section
variable [Sel] [SelPow]
noncomputable def JI:HeadR->TV
 | .ok n rest=>.tup [(.int .i64,.i .i64 n),(.str,.s rest),(.int .i64,.i .i64 0)]
 | .err e=>.tup [(.int .i64,.i .i64 0),(.str,.s []),(.int .i64,.i .i64 e)]
theorem zgw {c:UInt8} (h:48<=c.toNat):IntKind.u8.wrap ((c.toNat:Int)-48)=((c.toNat-48:Nat):Int):=by
 have:=c.toNat_lt
 have e:((c.toNat:Int)-48)=((c.toNat-48:Nat):Int):=by omega
 rw[e]
 simp only[IntKind.wrap,IntKind.signed,IntKind.bits]
 simp;omega
theorem zoz (b:List UInt8) (hb:b.length<=1000000000):PC Tryz.prog 131 [.av .str (.s b)] (JI (kS 0 0 b)):=by
 obtain⟨R,hR⟩:∃R,kS 0 0 b=R:=⟨_,rfl⟩
 rw[hR]
 refine zow Tryz.func131 cf0 fun imm0 w0=>?_
 simp (disch:=omega) [zz]
 refine AT.loop' (α:=Nat × Nat) (fun k=>St.of [(0,.av .str (.s b)),(5,.av (.int .i64) (.i .i64 k.2)),(9,.av (.int .i64) (.i .i64 b.length)),(10,.av (.int .i64) (.i .i64 k.1))] [] (fun _=>0) [])
  (fun k=>k.1<=b.length/\kS k.1 k.2 (b.drop k.1)=R/\k.1<=9/\k.2<10 ^ k.1) (fun k=>b.length-k.1) (0,0) ?_ ?_ ?_
 ·apply Le.of<;>simp[le9]<;>try omega
 ·simp[hR]
 rintro⟨k,n⟩ ⟨hk,hh,h9,hn⟩ KL hN hE
 simp only at hk hh h9 hn hN
 have hn9:n<1000000000:=Nat.lt_of_lt_of_le hn (Nat.pow_le_pow_right (by decide) h9)
 refine zrd cf0 ?_
 by_cases hlt:k<b.length
 ·have hlt':(k:Int)<b.length:=by omega
  have hd:b.drop k=b[k]::b.drop (k+1):=(List.getElem_cons_drop (h:=hlt)).symm
  obtain⟨c,hc⟩:∃c,b[k]=c:=⟨_,rfl⟩
  rw[hc]at hd
  have hc256:c.toNat<256:=c.toNat_lt
  rw[hd]at hh
  unfold kS at hh
  rcases Nat.eq_zero_or_pos k with rfl|hk0
  ·have hn00:n=0:=by simpa using hn
   subst hn00
   have hlt0:(0:Int)<b.length:=by omega
   by_cases h58:c=58
   ·subst h58
    rw[if_neg (by simp),if_pos (.inl (by decide))]at hh
    simp (disch:=omega) [zz,hlt0,hlt,hc]
    refine hE _ _ (by simp) ?_
    simp (disch:=omega) [zz,Tryz.f131,<-hh,JI]
   have h58':¬(c.toNat:Int)=58:=by have:=zfe (n:=58) (by omega) h58;simpa using this
   rw[if_neg (by simp[h58])]at hh
   by_cases hlo:c.toNat<48
   ·have hlo':(c.toNat:Int)<48:=by omega
    rw[if_pos (.inl (by simp[QJ];omega))]at hh
    simp (disch:=omega) [zz,hlt0,hlt,hc,h58',hlo']
    refine hE _ _ (by simp) ?_
    simp (disch:=omega) [zz,Tryz.f131,<-hh,JI]
   have hlo':¬(c.toNat:Int)<48:=by omega
   by_cases hhi:57<c.toNat
   ·have hhi':(57:Int)<c.toNat:=by omega
    rw[if_pos (.inl (by simp[QJ];omega))]at hh
    simp (disch:=omega) [zz,hlt0,hlt,hc,h58',hlo',hhi']
    refine hE _ _ (by simp) ?_
    simp (disch:=omega) [zz,Tryz.f131,<-hh,JI]
   have hhi':¬(57:Int)<c.toNat:=by omega
   have hsub:=zgw (c:=c) (by omega)
   rw[if_neg (by simp only[QJ,Bool.and_eq_false_iff,decide_eq_false_iff_not];omega)]at hh
   simp (disch:=omega) [zz,hlt0,hlt,hc,h58',hlo',hhi',hsub]
   refine hN _ (1,c.toNat-48) ?_ ⟨by omega,by simpa using hh,by omega,by simp only[Nat.pow_one];omega⟩ (by simp only;omega)
   apply Le.of<;>simp[le9]<;>try omega
  have hk0':(0:Int)<k:=by omega
  by_cases h58:c=58
  ·subst h58
   rw[if_pos ⟨rfl,hk0⟩]at hh
   simp (disch:=omega) [zz,hlt',hc,hk0',hk0]
   (repeat with_reducible refine om ?_)
   refine hE _ _ (by simp) ?_
   simp (disch:=omega) [zz,Tryz.f131,<-hh,JI]
  have h58':¬(c.toNat:Int)=58:=by have:=zfe (n:=58) (by omega) h58;simpa using this
  rw[if_neg (by simp[h58])]at hh
  by_cases hlo:c.toNat<48
  ·have hlo':(c.toNat:Int)<48:=by omega
   rw[if_pos (.inl (by simp[QJ];omega))]at hh
   simp (disch:=omega) [zz,hlt',hc,h58',hlo']
   refine hE _ _ (by simp) ?_
   simp (disch:=omega) [zz,Tryz.f131,<-hh,JI]
  have hlo':¬(c.toNat:Int)<48:=by omega
  by_cases hhi:57<c.toNat
  ·have hhi':(57:Int)<c.toNat:=by omega
   rw[if_pos (.inl (by simp[QJ];omega))]at hh
   simp (disch:=omega) [zz,hlt',hc,h58',hlo',hhi']
   refine hE _ _ (by simp) ?_
   simp (disch:=omega) [zz,Tryz.f131,<-hh,JI]
  have hhi':¬(57:Int)<c.toNat:=by omega
  by_cases hk9:k=9
  ·rw[if_pos (.inr (.inl hk9))]at hh
   subst hk9
   have hlt9:(9:Int)<b.length:=by omega
   simp (disch:=omega) [zz,hlt9,hlt,hc,h58',hlo',hhi']
   refine hE _ _ (by simp) ?_
   simp (disch:=omega) [zz,Tryz.f131,<-hh,JI]
  have hk9':¬(k:Int)=9:=by omega
  have hsub:=zgw (c:=c) (by omega)
  by_cases hn0:n=0
  ·subst hn0
   rw[if_pos (.inr (.inr ⟨hk0,rfl⟩))]at hh
   simp (disch:=omega) [zz,hlt',hc,h58',hlo',hhi',hk9',hk0',hk0]
   refine hE _ _ (by simp) ?_
   simp (disch:=omega) [zz,Tryz.f131,<-hh,JI]
  ·have hn0':¬(n:Int)=0:=by omega
   rw[if_neg (by simp only[QJ,Bool.and_eq_false_iff,decide_eq_false_iff_not];omega)]at hh
   simp (disch:=omega) [zz,hlt',hc,h58',hlo',hhi',hk9',hk0',hk0,hn0',hn0,hsub]
   refine hN _ (k+1,10*n+(c.toNat-48)) ?_ ⟨by omega,hh,by omega,by simp only[Nat.pow_succ];omega⟩ (by simp only;omega)
   apply Le.of<;>simp[le9]<;>try omega
 ·have hlt':¬(k:Int)<b.length:=by omega
  rw[List.drop_eq_nil_of_le (by omega)]at hh
  simp only[kS]at hh
  simp (disch:=omega) [zz,hlt']
  refine hE _ _ (by simp) ?_
  simp (disch:=omega) [zz,Tryz.f131,<-hh,JI]
theorem zcV:∀ {b:List UInt8} {k n:Nat} {e:Int},kS k n b=.err e->e=3\/e=4
 | [],_,_,_,h=>by simp[kS]at h;omega
 | c::r,k,n,e,h=>by
  unfold kS at h
  split at h
  ·cases h
  ·split at h
   ·simp only[HeadR.err.injEq]at h;omega
   ·exact zcV h
noncomputable def zW (x:List (List UInt8) × Int):TV:=.tup [(.slice 9,.sl .no (qG x.1)),(.int .i64,.i .i64 x.2)]
theorem zgG (b:List UInt8) (hb:b.length<=1000000000):PC Tryz.prog 74 [.av .str (.s b)] (zW (kO b)):=by
 obtain⟨R,hR⟩:∃R,kO b=R:=⟨_,rfl⟩
 rw[hR]
 unfold kO at hR
 refine zow Tryz.func74 cf0 fun imm0 w0=>?_
 simp (disch:=omega) [zz]
 refine AT.loop' (α:=Nat × Nat × List (List UInt8) × List UInt8) (fun x=>St.of [(0,.av .str (.s x.2.2.2)),(4,.av (.slice 9) (.sl (if x.1=0 then .full else .own 30 x.1) (qG x.2.2.1)))] [] (fun j=>if j=30 then x.1 else 0) [])
  (fun x=>ZJ x.2.1 x.2.2.1 x.2.2.2=R/\x.2.2.2.length<x.2.1/\x.2.2.2.length+x.2.2.1.length<=b.length/\(x.1=0->x.2.2.1=[])) (fun x=>x.2.1) (0,b.length+1,[],b) ?_ ?_ ?_
 ·apply Le.of<;>simp[le9,qG]<;>try omega
 ·exact⟨hR,by simp,by simp,fun _=>rfl⟩
 rintro⟨tk,f,out,r⟩ ⟨hr,hf,hlen,h0⟩ KL hN hE
 simp only at hr hf hlen h0 hN
 refine zrd cf0 ?_
 cases f with
 | zero=>omega
 | succ f =>
 unfold ZJ at hr
 by_cases hre:r=[]
 ·rw[if_pos hre]at hr
  subst hre
  simp (disch:=omega) [zz]
  refine hE _ _ (by simp) ?_
  simp (disch:=omega) [zz,Tryz.f74,<-hr,zW]
 rw[if_neg hre]at hr
 simp (disch:=omega) [zz,hre]
 refine zcv (zoz r (by omega)) ?_
 cases hh:kS 0 0 r with
 | err e =>
  rw[hh]at hr
  have he:¬e=0:=by rcases zcV hh with h|h<;>omega
  simp (disch:=omega) [zz,JI,he]
  refine hE _ _ (by simp) ?_
  simp (disch:=omega) [zz,Tryz.f74,<-hr,zW,qG]
 | ok n rest =>
  rw[hh]at hr
  simp only at hr
  have hl:=vQ hh
  by_cases hn:rest.length<n
  ·have hn':(rest.length:Int)<n:=by omega
   rw[if_pos hn]at hr
   simp (disch:=omega) [zz,JI,hn']
   refine hE _ _ (by simp) ?_
   simp (disch:=omega) [zz,Tryz.f74,<-hr,zW,qG]
  ·have hn':¬(rest.length:Int)<n:=by omega
   have hn2:(n:Int)<=rest.length:=by omega
   rw[if_neg hn]at hr
   cases tk with
   | zero =>
    obtain rfl:=h0 rfl
    simp (disch:=omega) [zz,JI,hn',hn2,qQ,qG]
    refine hN _ (1,f,[rest.take n],rest.drop n) ?_ ⟨by simpa using hr,by simp;omega,by simp at hlen |-;omega,by simp⟩ (by simp only;omega)
    apply Le.of<;>simp[le9,qG]<;>try omega
   | succ tk =>
    simp (disch:=omega) [zz,JI,hn',hn2,qQ]
    refine⟨by omega,by omega,?_⟩
    refine hN _ (tk+2,f,out++[rest.take n],rest.drop n) ?_ ⟨hr,by simp;omega,by simp;omega,by simp⟩ (by simp only;omega)
    apply Le.of<;>simp[le9,qG]<;>try omega
    all_goals (intro j;by_cases hj:j=30<;>simp[hj])
end
end Go.Proofs.YtognnffjdckalaaGreatDoor
