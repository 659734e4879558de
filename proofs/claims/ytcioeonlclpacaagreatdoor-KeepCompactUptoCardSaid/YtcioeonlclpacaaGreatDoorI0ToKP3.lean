/- The db of bytes: plain. No condition beyond each theorem's own. -/
import Derived.Test.YtcioeonlclpacaaGreatDoorH3ToP45
import Derived.Test.YtcioeonlclpacaaGreatDoorP50
import Derived.Test.YtcioeonlclpacaaGreatDoorP48ToP44
import Derived.Test.YtcioeonlclpacaaGreatDoorP25ToG2
import Derived.Test.YtcioeonlclpacaaGreatDoorS3ToS8
import Derived.Test.YtcioeonlclpacaaGreatDoorL0
import Derived.Test.YtcioeonlclpacaaGreatDoorSH2ToP16
import Derived.Test.YtcioeonlclpacaaGreatDoorQ0ToP0
set_option linter.unusedSimpArgs false
set_option linter.unusedVariables false
set_option linter.unusedSectionVars false
section
set_option maxRecDepth 100000
namespace Go.Proofs.YtcioeonlclpacaaGreatDoor
open Go Go.Ab
open Classical
variable [Sel] [SelPow] [SelErr]
theorem CG.fold {mo:Nat} (hm:1≤mo):∀ {ts:List zaP} {n:Nat} {L:DbL},CG n mo L→(∀t∈ts,TrW t∧TrD t)→CG (n+ts.length) mo (ts.foldl (zJj mo) L)
 | [],n,L,h,_=>h
 | x::r,n,L,h,h2=>by
  have:=CG.fold hm (ts:=r) (h.add hm (h2 x (by simp)).1 (h2 x (by simp)).2) fun t ht=>h2 t (List.mem_cons_of_mem _ ht)
  rw[List.foldl_cons,List.length_cons]
  rw[show n+(r.length+1)=n+1+r.length by omega]
  exact this
theorem CG.his {mo:Nat} (hm:1≤mo) {ts:List zaP} (h:∀t∈ts,TrW t∧TrD t):CG ts.length mo (zRd mo ts):=by
 have:=CG.fold hm (ts:=ts) CG.nil h
 rw[Nat.zero_add]at this
 exact this
theorem zEo (u:Nat) (x:List UInt8):(Lib.decDigits u).length≤9→zD2 0 0 (Lib.decDigits u++x)=zD2 (Lib.decDigits u).length u x:=by
 induction u using Nat.strongRecOn generalizing x with
 | ind u ih =>
  intro hl
  have key:∀d:Nat,d<10→(UInt8.ofNat (48+d)).toNat=48+d:=fun d hd=>by simp;omega
  have h58:∀d:Nat,d<10→¬UInt8.ofNat (48+d)=58:=fun d hd e=>by
   have:=congrArg UInt8.toNat e
   rw[key d hd]at this
   have h:(58:UInt8).toNat=58:=rfl
   omega
  by_cases h:u<10
  ·have e:Lib.decDigits u=[UInt8.ofNat (48+u)]:=by rw[Lib.decDigits,dif_pos h]
   rw[e]
   show zD2 0 0 (UInt8.ofNat (48+u)::x)=zD2 1 u x
   have h1:=key u h
   rw[zD2,if_neg (by simp),if_neg (by simp only[zDt,h1,Bool.and_eq_false_iff,decide_eq_false_iff_not];omega),h1]
   congr 1;omega
  ·have e:Lib.decDigits u=Lib.decDigits (u / 10)++[UInt8.ofNat (48+u % 10)]:=by rw[Lib.decDigits,dif_neg h]
   have hl2:(Lib.decDigits u).length=(Lib.decDigits (u / 10)).length+1:=by rw[e];simp
   have hpos:0<(Lib.decDigits (u / 10)).length:=List.length_pos_iff.2 (zD6 _)
   have ih1:=ih (u / 10) (by omega) (UInt8.ofNat (48+u % 10)::x) (by omega)
   rw[hl2]
   rw[e,List.append_assoc]
   show zD2 0 0 (Lib.decDigits (u / 10)++(UInt8.ofNat (48+u % 10)::x))=_
   rw[ih1]
   have h1:=key (u % 10) (by omega)
   have h2:=h58 (u % 10) (by omega)
   rw[zD2,if_neg (fun e=>h2 e.1),if_neg (by simp only[zDt,h1,Bool.and_eq_false_iff,decide_eq_false_iff_not];omega),h1]
   congr 1;omega
theorem zGn (u:Nat) (h:u<1000000000):(Lib.decDigits u).length≤9:=by
 have key:∀(k u:Nat),u<10 ^ (k+1)→(Lib.decDigits u).length≤k+1:=by
  intro k
  induction k with
  | zero=>intro u hu;rw[Lib.decDigits,dif_pos (by omega)];simp
  | succ k ih =>
   intro u hu
   rw[Lib.decDigits]
   split
   ·simp
   ·have:=ih (u / 10) (by rw[Nat.pow_succ]at hu;omega)
    simp;omega
 exact key 8 u (by omega)
theorem zFy (s:List UInt8) (x:List UInt8) (h:s.length<1000000000):zD2 0 0 (Lib.itoa s.length++58::(s++x))=.ok s.length (s++x):=by
 rw[zyP,zEo _ _ (zGn _ h)]
 have hpos:0<(Lib.decDigits s.length).length:=List.length_pos_iff.2 (zD6 _)
 rw[zD2,if_pos ⟨rfl,hpos⟩]
theorem zDq:∀(l:List (List UInt8)) (f:Nat) (out:List (List UInt8)),(∀s∈l,s.length<1000000000)→(WI l).length<f→zDb f out (WI l)=(out++l,0)
 | [],f,out,_,hf=>by
  obtain⟨f,rfl⟩:∃g,f=g+1:=⟨f-1,by omega⟩
  simp[zDb,WI]
 | s::l,f,out,hs,hf=>by
  obtain⟨f,rfl⟩:∃g,f=g+1:=⟨f-1,by omega⟩
  have hne:WI (s::l)≠[]:=by rw[zyI];simp
  have hlen:(WI l).length<f:=by rw[zyI]at hf;simp at hf;omega
  unfold zDb
  rw[if_neg hne,zyI,zFy s (WI l) (hs s (by simp))]
  simp only
  rw[if_neg (by simp),List.take_left,List.drop_left,zDq l f _ (fun x hx=>hs x (by simp[hx])) hlen]
  simp
theorem zEp {l:List (List UInt8)} (h:∀s∈l,s.length<1000000000):zD9 (WI l)=(l,0):=by
 have:=zDq l ((WI l).length+1) [] h (by omega)
 simpa[zD9]using this
theorem zEK:∀(l:List Made),(∀m∈l,m.sum.length=32)→rG 0 (l.flatMap zDa)=some ([],l)
 | [],_=>rfl
 | m::l,h=>by
  have ih:=zEK l fun x hx=>h x (by simp[hx])
  have h32:=h m (by simp)
  show rG 0 (m.path::m.sum::l.flatMap zDa)=_
  rw[rG,if_pos h32,ih]
  rfl
theorem zEA:∀(l:List XF) (o:List Made),(∀r∈l,okS r)→(∀m∈o,m.sum.length=32)→rG l.length (l.flatMap zD8++o.flatMap zDa)=some (l,o)
 | [],o,_,ho=>by simpa using zEK o ho
 | r::l,o,h,ho=>by
  have ih:=zEA l o (fun x hx=>h x (by simp[hx])) ho
  obtain⟨h32,hz⟩:=h r (by simp)
  obtain⟨p,is,s⟩:=r
  simp only at h32 hz
  show rG (l.length+1) (p::(if is then s else [])::(l.flatMap zD8++o.flatMap zDa))=_
  cases is with
  | true =>
   have hne:s≠[]:=by intro e;rw[e]at h32;cases h32
   rw[if_pos rfl,rG,if_neg hne,if_pos h32,ih];rfl
  | false =>
   rw[if_neg (by simp),rG,if_pos rfl,ih,hz rfl];rfl
theorem zFM {t:zaP} (hd:TrD t) (hc:zCW t=0):zF6 (zCY t)=(t,0):=by
 have hr:=zEA t.reads t.outs (zEv hd hc) hd.2.2
 obtain⟨h1,h2⟩:=zDf hc
 have hi:zDD (Lib.itoa t.reads.length)=some (t.reads.length:Int):=zFi (by omega) (by omega)
 have hl:(t.reads.flatMap zD8++t.outs.flatMap zDa).length=2*t.reads.length+2*t.outs.length:=by rw[List.length_append,zEn,zEl]
 have hk:=hd.1
 have e:zCY t=t.key::Lib.itoa t.reads.length::(t.reads.flatMap zD8++t.outs.flatMap zDa):=by simp[zCY]
 rw[e]
 simp only[zF6,hi]
 rw[if_neg (by omega),if_neg (by omega),Int.toNat_natCast,hr]
 simp only[zFW]
 rw[if_pos (show zCW ⟨t.key,t.reads,t.outs⟩=0 from hc)]
theorem zE4 {t:zaP} (hd:TrD t) (h:zCW t=0):∀x∈zCY t,x.length≤1040:=by
 obtain⟨h1,h2⟩:=zDf h
 obtain⟨h3,h4⟩:=zDC h
 obtain⟨d1,d2,d3⟩:=hd
 intro x hx
 simp only[zCY,List.mem_append,List.mem_cons,List.mem_flatMap,List.not_mem_nil,or_false]at hx
 rcases hx with((rfl|rfl)|⟨r,hr,hx⟩)|⟨m,hm,hx⟩
 ·omega
 ·have:=zDw t.reads.length
  rw[zyP];omega
 ·have:=zEm (zDh h3 r hr).1
  simp only[zD8,List.mem_cons,List.not_mem_nil,or_false]at hx
  rcases hx with rfl|rfl
  ·exact this
  ·split
   ·have:=d2 r hr;omega
   ·simp
 ·have hu:=zDr h4 m hm
  simp only[zuT,Bool.and_eq_true]at hu
  have:=zEm hu.1
  simp only[zDa,List.mem_cons,List.not_mem_nil,or_false]at hx
  rcases hx with rfl|rfl
  ·exact this
  ·have:=d3 m hm;omega
theorem zFH {t:zaP} (hd:TrD t) (hc:zCW t=0):zEz (WI (zCY t))=(t,0):=by
 have h:=zEp (l:=zCY t) fun s hs=>by have:=zE4 hd hc s hs;omega
 unfold zEz
 rw[h,if_pos rfl,zFV,zFM hd hc]
theorem zOm {mo:Nat} {t:zaP} {ts:List zaP} (h:ts.Nodup):(zJr mo t ts).Nodup:=by
 unfold zJr
 refine List.Nodup.sublist (List.take_sublist _ _) (List.nodup_cons.2 ⟨?_,?_⟩)
 ·rw[zQ8,List.mem_filter];simp
 ·exact List.Pairwise.filter _ h
theorem zV4 {mo:Nat}:∀(l:List zaP),l.Nodup→l.length≤mo→l.reverse.foldl (fun r x=>zJr mo x r) []=l
 | [],_,_=>rfl
 | x::l,hn,hl=>by
  rw[List.nodup_cons]at hn
  rw[List.length_cons]at hl
  rw[List.reverse_cons,List.foldl_append,zV4 l hn.2 (by omega)]
  simp only[List.foldl_cons,List.foldl_nil]
  unfold zJr
  have e:kp x l=l:=by
   rw[zQ8]
   refine List.filter_eq_self.2 fun y hy=>?_
   have:y≠x:=fun e=>hn.1 (e▸hy)
   simp[this]
  rw[e,List.take_of_length_le (by simpa using hl)]
theorem zSA {t:zaP} (ht:TrP t) (hc:zCW t=0):TrW t:=by
 obtain⟨h3,h4⟩:=zDC hc
 refine⟨ht,fun r hr=>Nat.le_trans (zEm (zDh h3 r hr).1) (by decide),fun m hm=>?_⟩
 have hu:=zDr h4 m hm
 simp only[zuT,Bool.and_eq_true]at hu
 exact Nat.le_trans (zEm hu.1) (by decide)
theorem CG.mono {n n' mo:Nat} {L:DbL} (h:CG n mo L) (hn:n≤n'):CG n' mo L:=⟨h.ok,h.mem,Nat.le_trans h.len hn,h.row⟩
end Go.Proofs.YtcioeonlclpacaaGreatDoor
end
section
set_option maxRecDepth 100000
namespace Go.Proofs.YtcioeonlclpacaaGreatDoor
open Go Go.Ab
open Classical
variable [Sel]
@[simp] theorem zoj:qZ Tryz.prog 43=true:=by kernel_rfl
@[simp] theorem zrQ:z8 Tryz.prog (.func 43)=false:=q9 zoj
@[simp] theorem zGe:qZ Tryz.prog 52=true:=by kernel_rfl
@[simp] theorem zGy:z8 Tryz.prog (.func 52)=false:=q9 zGe
@[simp] theorem zyq:qZ Tryz.prog 49=true:=by kernel_rfl
@[simp] theorem zyC:z8 Tryz.prog (.func 49)=false:=q9 zyq
abbrev zKp:TyD:=.struct [106,3]
def stE (l:List (Dig × List UInt8)):List (AV × AV):=l.map fun p=>(KW p.1,AV.s p.2)
noncomputable def stO (B M:Nat) (l:List (Dig × List UInt8)) (n:Int):q8:=[(B,.var zKp (.agg [.map (some M),.i .i64 n])),(M,.map 46 9 (stE l))]
theorem zLm (d:Dig):∀l:List (Dig × List UInt8),yY (KW d) (stE l)=(l.find? fun p=>decide (p.1=d)).map fun p=>AV.s p.2
 | []=>rfl
 | (k,v)::l=>by
  have ih:=zLm d l
  simp only[stE,List.map_cons,yY,List.find?_cons,ziF]at ih ⊢
  by_cases h:k=d
  ·simp[h]
  ·simp only[h,if_false,decide_false];exact ih
theorem zNm (d:Dig) (x:List UInt8):∀l:List (Dig × List UInt8),(l.find? fun p=>decide (p.1=d))=none→xX (KW d) (.s x) (stE l)=stE (l++[(d,x)])
 | [],_=>rfl
 | (k,v)::l,h=>by
  rw[List.find?_cons]at h
  by_cases hk:k=d
  ·simp[hk]at h
  ·simp only[hk,decide_false]at h
   have ih:=zNm d x l h
   simp only[stE,List.map_cons,xX,ziF,hk,if_false,List.cons_append]at ih ⊢
   rw[ih]
@[simp] theorem zTk (l:List (Dig × List UInt8)):(stE l).map (fun p=>(p.1.er,p.2.er))=stE l:=by
 simp[stE,List.map_map,Function.comp_def,AV.er]
@[simp] theorem zSo (B M:Nat) (l:List (Dig × List UInt8)) (n:Int):(stO B M l n).er=stO B M l n:=by
 simp[stO,q8.er_cons,q8.er_nil,HObj.er_var,HObj.er_map,AV.erk,AV.erks]
abbrev zTq:Cfg:=⟨fun n=>n==3,fun _=>false⟩
theorem zRy:q7 Tryz.prog 43 [] [] fun r H'=>∃B M,M≠B∧r=.av .ptr (.ptr B zKp [])∧H'=stO B M [] 0:=by
 refine zov Tryz.func43 zTq fun imm0 w0=>?_
 (simp (maxSteps:=2000000) (disch:=first|omega|assumption) [zz])
 intro M B hB
 (simp (maxSteps:=2000000) (disch:=first|omega|assumption) [zz,Tryz.f43])
 exact⟨B,M,fun e=>hB e.symm,rfl,by simp[stO,stE]⟩
def zJm (d:Dig) (x:List UInt8) (l:List (Dig × List UInt8)):List (Dig × List UInt8):=match l.find? fun p=>decide (p.1=d)with
 | some _=>l
 | none=>l++[(d,x)]
abbrev zSH:Cfg:=⟨fun _=>false,fun n=>n==1000006⟩
theorem zRX (B M:Nat) (hBM:M≠B) (l:List (Dig × List UInt8)) (n:Int) (d:Dig) :
  q7 Tryz.prog 49 [.av .ptr (.ptr B zKp []),.av (qD Tryz.prog 46) (KW d)] (stO B M l n) fun r H'=>r=.tup [(.str,.s (((l.find? fun p=>decide (p.1=d)).map Prod.snd).getD [])),(.bool,.b (l.find? fun p=>decide (p.1=d)).isSome)]∧H'=stO B M l n:=by
 have hBM':¬B=M:=fun e=>hBM e.symm
 have hfd:=zLm d l
 refine zov Tryz.func49 cf0 fun imm0 w0=>?_
 cases hf:l.find? (fun p=>decide (p.1=d))with
 | some p =>
  rw[hf]at hfd
  simp only[Option.map_some]at hfd
  (simp (maxSteps:=2000000) (disch:=first|omega|assumption) [zz,stO,hBM,hBM',hfd])
  (repeat with_reducible refine om ?_)
  (simp (maxSteps:=2000000) (disch:=first|omega|assumption) [zz,Tryz.f49])
 | none =>
  rw[hf]at hfd
  simp only[Option.map_none]at hfd
  (simp (maxSteps:=2000000) (disch:=first|omega|assumption) [zz,stO,hBM,hBM',hfd])
  (repeat with_reducible refine om ?_)
  (simp (maxSteps:=2000000) (disch:=first|omega|assumption) [zz,Tryz.f49])
structure U1 where
 path:List UInt8
 data:List UInt8
deriving DecidableEq
structure zcy where
 kind:Int
 why:Int
 outs:List U1
 reads:List XF
def jZ (f:U1):AV:=.agg [.s f.path,.s f.data]
def zU (l:List U1):AV:=.sl .no (l.map jZ)
def zI (o:zcy):AV:=.agg [.i .i64 o.kind,.i .i64 o.why,zU o.outs,qF o.reads]
@[simp] theorem zfq (f:U1):(jZ f).er=jZ f:=by simp[jZ,AV.er,AV.ers]
@[simp] theorem zdW (l:List U1):(zU l).er=zU l:=by simp[zU,AV.er,AV.ers_eq,Function.comp_def]
@[simp] theorem zPB (o:zcy):(zI o).er=zI o:=by simp[zI,AV.er,AV.ers]
@[simp] theorem znl (x:U1):(jZ x).erk=jZ x:=kH _ (zfq x)
@[simp] theorem zlu (x:List U1):(zU x).erk=zU x:=kH _ (zdW x)
@[simp] theorem zoi (x:zcy):(zI x).erk=zI x:=kH _ (zPB x)

@[simp] theorem zUU:qZ Tryz.prog 124=true:=by kernel_rfl
@[simp] theorem zUV:z8 Tryz.prog (.func 124)=false:=q9 zUU
end Go.Proofs.YtcioeonlclpacaaGreatDoor
end
section
set_option maxRecDepth 100000
namespace Go.Proofs.YtcioeonlclpacaaGreatDoor
open Go Go.Ab
open Classical
variable [Sel]
end Go.Proofs.YtcioeonlclpacaaGreatDoor
end
section
set_option maxRecDepth 100000
namespace Go.Proofs.YtcioeonlclpacaaGreatDoor
open Go Go.Ab
open Classical
variable [Sel] [SelPow] [SelErr]
abbrev BlL:=List (Dig × List UInt8)
def blobW:List UInt8:=[98,108,111,98]
def traceW:List UInt8:=[116,114,97,99,101]
def zJf (x:List UInt8):List UInt8:=WI [blobW,x]
noncomputable def zJG (t:zaP):List UInt8:=WI [traceW,zL2 t]
def zJl (d:Dig) (l:BlL):Bool:=(l.find? fun p=>decide (p.1=d)).isSome
def szB (l:BlL):Nat:=(l.map fun p=>p.2.length).sum
structure MV where
 L:DbL
 bl:BlL
noncomputable def K0 (mo:Nat) (r:List UInt8) (x:MV):MV × Int :=
 if (zD9 r).2≠0 then(x,3) else match (zD9 r).1 with
 | [w,s]=>if w=blobW then(⟨x.L,zJm (sha s) s x.bl⟩,0) else if w=traceW then(if (zEz s).2=0 then(⟨zJj mo x.L (zEz s).1,x.bl⟩,0) else(x,(zEz s).2)) else(x,3)
 | _=>(x,3)
noncomputable def j5 (mo:Nat):List (List UInt8)→MV→MV × Int
 | [],x=>(x,0)
 | r::l,x=>if (K0 mo r x).2=0 then j5 mo l (K0 mo r x).1 else K0 mo r x
structure KV where
 j:JV
 mo:Nat
 M:MV
noncomputable def zJv (mo:Int) (d:DV):DV × Option KV × Int :=
 if mo<1∨8<mo then(d,none,2) else
 if (openJ d).2.1≠0 then((openJ d).1,none,(openJ d).2.1) else
 if (j5 mo.toNat (openJ d).2.2 ⟨[],[]⟩).2≠0 then((openJ d).1,none,(j5 mo.toNat (openJ d).2.2 ⟨[],[]⟩).2) else
 ((openJ d).1,some ⟨⟨(openJ d).1,false⟩,mo.toNat,(j5 mo.toNat (openJ d).2.2 ⟨[],[]⟩).1⟩,0)
def q6:List U1→JV→BlL→JV × BlL × Int
 | [],j,bl=>(j,bl,0)
 | f::r,j,bl=>if zJl (sha f.data) bl then q6 r j bl else
  if (addJ (zJf f.data) j).2=0 then q6 r (addJ (zJf f.data) j).1 (zJm (sha f.data) f.data bl) else((addJ (zJf f.data) j).1,bl,(addJ (zJf f.data) j).2)
def zJF (f:U1):Made:=⟨f.path,sha f.data⟩
noncomputable def g6 (t:zaP) (outs:List U1) (k:KV):KV × Int :=
 if zCW t≠0 then(k,zCW t) else if t.outs≠outs.map zJF then(k,1) else
 if (q6 outs k.j k.M.bl).2.2≠0 then(⟨(q6 outs k.j k.M.bl).1,k.mo,⟨k.M.L,(q6 outs k.j k.M.bl).2.1⟩⟩,(q6 outs k.j k.M.bl).2.2) else
 if (addJ (zJG t) (q6 outs k.j k.M.bl).1).2≠0 then(⟨(addJ (zJG t) (q6 outs k.j k.M.bl).1).1,k.mo,⟨k.M.L,(q6 outs k.j k.M.bl).2.1⟩⟩,(addJ (zJG t) (q6 outs k.j k.M.bl).1).2) else
 (⟨(addJ (zJG t) (q6 outs k.j k.M.bl).1).1,k.mo,⟨zJj k.mo k.M.L t,(q6 outs k.j k.M.bl).2.1⟩⟩,0)
abbrev zKv:=List Dig × List (List UInt8)
def recM (bl:BlL) (m:Made) (s:zKv):zKv:=match bl.find? (fun p=>decide (p.1=m.sum))with
 | some p=>if m.sum∈s.1 then s else(s.1++[m.sum],s.2++[zJf p.2])
 | none=>s
noncomputable def recT (bl:BlL) (t:zaP) (s:zKv):zKv:=((t.outs.foldl (fun s m=>recM bl m s) s).1,(t.outs.foldl (fun s m=>recM bl m s) s).2++[zJG t])
noncomputable def recK (x:MV) (k:Dig) (s:zKv):zKv:=(getD x.L k).reverse.foldl (fun s t=>recT x.bl t s) s
noncomputable def zO2 (x:MV):zKv:=(zKJ (x.L.map Prod.fst)).foldl (fun s k=>recK x k s) ([],[])
noncomputable def zSg (x:MV):MV:=⟨x.L,x.bl.filter fun p=>decide (p.1∈(zO2 x).1)⟩
noncomputable def zUW (k:KV):KV × Int:=if (swapJ (zO2 k.M).2 k.j).2=0 then(⟨(swapJ (zO2 k.M).2 k.j).1,k.mo,zSg k.M⟩,0) else(⟨(swapJ (zO2 k.M).2 k.j).1,k.mo,k.M⟩,(swapJ (zO2 k.M).2 k.j).2)
theorem zMS {w s:List UInt8} (hw:w.length<1000000000) (hs:s.length<1000000000):zD9 (WI [w,s])=([w,s],0):=by
 refine zEp fun y hy=>?_
 simp only[List.mem_cons,List.not_mem_nil,or_false]at hy
 rcases hy with rfl|rfl
 ·exact hw
 ·exact hs
theorem zLs {mo:Nat} {s:List UInt8} {x:MV} (h:s.length<1000000000):K0 mo (zJf s) x=(⟨x.L,zJm (sha s) s x.bl⟩,0):=by
 unfold K0 zJf
 rw[zMS (by decide) h,if_neg (by simp)]
 simp only
 rw[if_pos trivial]
theorem zLa {mo:Nat} {t:zaP} {x:MV} (hd:TrD t) (hc:zCW t=0):K0 mo (zJG t) x=(⟨zJj mo x.L t,x.bl⟩,0):=by
 have hb:zL2 t=WI (zCY t):=by simp[zL2,hc]
 have h7:=zL6 hd hc
 have hr:=zFH hd hc
 unfold K0 zJG
 rw[hb,zMS (by decide) (by omega),if_neg (by simp)]
 simp only
 rw[if_neg (by decide),if_pos trivial,hr,if_pos rfl]
theorem zJw {mo:Nat}:∀ {a b:List (List UInt8)} {x y:MV},j5 mo a x=(y,0)→j5 mo (a++b) x=j5 mo b y
 | [],b,x,y,h=>by cases h;rfl
 | r::a,b,x,y,h=>by
  rw[j5]at h
  split at h
  ·rename_i h1
   rw[List.cons_append,j5,if_pos h1]
   exact zJw h
  ·rename_i h1
   rw[h]at h1;exact absurd rfl h1
theorem zLf:∀(m:Nat) {n:Nat} {l:List (List UInt8)} {x:List XF × List Made},l.length≤m→l.length % 2=0→2*n≤l.length→rG n l=some x→x.1.flatMap zD8++x.2.flatMap zDa=l∧x.1.length=n∧(∀y∈x.1,y.sum.length=32)∧∀y∈x.2,y.sum.length=32
 | m,n,[],x,_,_,h2,h=>by
  rw[zSm]at h;cases h
  have hn:n=0:=by simp at h2;omega
  subst hn
  simp
 | m,n,[p],x,_,h1,_,h=>by simp at h1
 | 0,n,p::s::r,x,hm,_,_,h=>by simp at hm
 | m+1,0,p::s::r,x,hm,h1,h2,h=>by
  unfold rG at h
  split at h
  ·rename_i h32
   obtain⟨y,hy,rfl⟩:=Option.map_eq_some_iff.1 h
   obtain⟨e1,e2,e3,e4⟩:=zLf m (by simp at hm;omega) (by simp at h1;omega) (by omega) hy
   have e5:y.1=[]:=List.length_eq_zero_iff.1 e2
   rw[e5]at e1
   simp only[List.flatMap_nil,List.nil_append]at e1
   refine⟨?_,e2,e3,fun z hz=>?_⟩
   ·simp[e5,zDa,e1]
   ·rcases List.mem_cons.1 hz with rfl|hz
    ·exact h32
    ·exact e4 z hz
  ·cases h
 | m+1,n+1,p::s::r,x,hm,h1,h2,h=>by
  unfold rG at h
  split at h
  ·rename_i hs0
   obtain⟨y,hy,rfl⟩:=Option.map_eq_some_iff.1 h
   obtain⟨e1,e2,e3,e4⟩:=zLf m (by simp at hm;omega) (by simp at h1;omega) (by simp at h2;omega) hy
   refine⟨?_,by simp[e2],fun z hz=>?_,e4⟩
   ·simp only[List.flatMap_cons,List.append_assoc,e1]
    simp[zD8,hs0]
   ·rcases List.mem_cons.1 hz with rfl|hz
    ·rfl
    ·exact e3 z hz
  ·split at h
   ·rename_i h32
    obtain⟨y,hy,rfl⟩:=Option.map_eq_some_iff.1 h
    obtain⟨e1,e2,e3,e4⟩:=zLf m (by simp at hm;omega) (by simp at h1;omega) (by simp at h2;omega) hy
    refine⟨?_,by simp[e2],fun z hz=>?_,e4⟩
    ·simp only[List.flatMap_cons,List.append_assoc,e1]
     simp[zD8]
    ·rcases List.mem_cons.1 hz with rfl|hz
     ·exact h32
     ·exact e3 z hz
   ·cases h
theorem zNJ {l:List (List UInt8)} {t:zaP} (h:zF6 l=(t,0)):zCY t=l∧zCW t=0∧TrD t:=by
 unfold zF6 at h
 split at h
 ·rename_i k c r
  split at h
  ·simp at h
  ·rename_i hb
   split at h
   ·simp at h
   ·rename_i n hi
    split at h
    ·simp at h
    ·rename_i hn
     split at h
     ·simp at h
     ·rename_i x hg
      unfold zFW at h
      split at h
      ·rename_i hc
       simp only[Prod.mk.injEq,and_true]at h
       subst h
       obtain⟨m,rfl⟩:∃m:Nat,n=(m:Int):=⟨n.toNat,by omega⟩
       simp only[Int.toNat_natCast]at hg
       have hk32:k.length=32:=Classical.byContradiction fun e=>hb (.inr e)
       obtain⟨e1,e2,e3,e4⟩:=zLf r.length (Nat.le_refl _) (by omega) (by omega) hg
       refine⟨?_,hc,hk32,e3,e4⟩
       obtain⟨_,hit,_⟩:=zFk hi
       simp only[zCY,e2,hit,List.append_assoc,e1]
       rfl
      ·rename_i hc
       simp only[Prod.mk.injEq]at h
       exact absurd h.2 hc
 ·simp at h
theorem zMe {b:List UInt8} {t:zaP} (h:zEz b=(t,0)):WI (zCY t)=b∧zCW t=0∧TrD t:=by
 unfold zEz at h
 split at h
 ·rename_i he
  rw[zFV]at h
  obtain⟨h1,h2,h3⟩:=zNJ h
  refine⟨?_,h2,h3⟩
  rw[h1]
  exact zMD (by rw[←he])
 ·rename_i he
  simp only[Prod.mk.injEq]at h
  exact absurd h.2 he
theorem zMX {t:zaP} (h:zCW t=0):TrP t:=by
 obtain⟨h1,h2⟩:=zDf h
 obtain⟨h3,h4⟩:=zDC h
 refine⟨⟨by omega,fun r hr=>?_⟩,by omega,fun m hm=>?_⟩
 ·have:=zEm (zDh h3 r hr).1
  omega
 ·have hu:=zDr h4 m hm
  simp only[zuT,Bool.and_eq_true]at hu
  have:=zEm hu.1
  omega
noncomputable def wtT (t:zaP):Nat:=12+(zJG t).length
def wtB (s:List UInt8):Nat:=12+(zJf s).length
noncomputable def zKH (l:List zaP):Nat:=(l.map wtT).sum
noncomputable def zN8 (L:DbL):Nat:=(L.map fun p=>zKH p.2).sum
def zLL (l:BlL):Nat:=(l.map fun p=>wtB p.2).sum
def wtR (l:List (List UInt8)):Nat:=(l.map fun r=>12+r.length).sum
theorem zLW:∀l:List (List UInt8),(q5 l).length=wtR l
 | []=>rfl
 | r::l=>by
  have ih:=zLW l
  have e:q5 (r::l)=frame r++q5 l:=rfl
  rw[e,List.length_append,zJq,ih];rfl
theorem zP1 (a b:List (List UInt8)):wtR (a++b)=wtR a+wtR b:=by simp[wtR]
theorem zQp (a:List zaP):zKH a.reverse=zKH a:=by simp[zKH,List.map_reverse]
theorem zQU {a b:List zaP} (h:a.Sublist b):zKH a≤zKH b:=by
 induction h with
 | slnil=>exact Nat.le_refl _
 | cons x _ ih=>simp only[zKH,List.map_cons,List.sum_cons]at ih ⊢;omega
 | cons_cons x _ ih=>simp only[zKH,List.map_cons,List.sum_cons]at ih ⊢;omega
theorem zO4 {k:Dig} {v:List zaP}:∀ {L:DbL},zN8 (zJA k v L)+zKH (getD L k)=zN8 L+zKH v
 | []=>by simp[zJA,zN8,getD,zKH]
 | (k',v')::r=>by
  have ih:=zO4 (k:=k) (v:=v) (L:=r)
  by_cases h:k'=k
  ·simp only[zJA,h,if_true,zN8,List.map_cons,List.sum_cons,getD,List.find?_cons,decide_true];omega
  ·simp only[zJA,h,if_false,zN8,List.map_cons,List.sum_cons,getD,List.find?_cons,decide_false]at ih ⊢
   omega
theorem zRg (mo:Nat) (t:zaP) (ts:List zaP):zKH (zJr mo t ts)≤wtT t+zKH ts:=by
 have h:(zJr mo t ts).Sublist (t::ts):=(List.take_sublist _ _).trans (List.Sublist.cons_cons _ List.filter_sublist)
 have:=zQU h
 simpa[zKH]using this
theorem zQq {mo:Nat} {L:DbL} {t:zaP}:zN8 (zJj mo L t)≤zN8 L+wtT t:=by
 unfold zJj
 split
 ·have h1:=zO4 (k:=t.key) (v:=zJr mo t (getD L t.key)) (L:=L)
  have h2:=zRg mo t (getD L t.key)
  omega
 ·omega
theorem zQx {s:List UInt8} {d:Dig} {l:BlL}:zLL (zJm d s l)≤zLL l+wtB s:=by
 unfold zJm
 split
 ·omega
 ·simp[zLL]
def TrG (t:zaP):Prop:=TrD t∧zCW t=0
theorem TrG.W {t:zaP} (h:TrG t):TrW t:=zSA (zMX h.2) h.2
structure zJu (mo N:Nat) (x:MV):Prop where
 ok:OKD x.L
 tr:∀p∈x.L,p.1.length=32∧∀t∈p.2,TrG t
 row:∀k,(getD x.L k).length≤mo
 rn:∀k,(getD x.L k).Nodup
 nd:(x.bl.map Prod.fst).Nodup
 sh:∀p∈x.bl,p.1=sha p.2
 le:zN8 x.L+zLL x.bl≤N
structure zJS (N:Nat) (k:KV):Prop where
 mem:zJu k.mo N k.M
 ok:DOK k.j.d
 m:szF k.j.d.m≤N
 n:szF k.j.d.n≤N
 lo:1≤k.mo
 hi:k.mo≤8
theorem zJu.nil {mo:Nat}:zJu mo 0 ⟨[],[]⟩:=⟨zOP,by simp,by simp[getD],by simp[getD],by simp,by simp,by simp[zN8,zLL]⟩
theorem zJu.up {mo N N':Nat} {x:MV} (h:zJu mo N x) (hN:N≤N'):zJu mo N' x:={ h with le:=Nat.le_trans h.le hN }
theorem zKg {d:Dig} {s:List UInt8} {l:BlL} {e:Dig}:((zJm d s l).find? fun p=>decide (p.1=e))=if zJl e l=true then l.find? (fun p=>decide (p.1=e)) else if d=e then some (d,s) else none:=by
 unfold zJm zJl
 cases hf:l.find? (fun p=>decide (p.1=d))with
 | some p =>
  simp only
  cases he:l.find? (fun p=>decide (p.1=e))with
  | some q=>simp
  | none =>
   have:d≠e:=by rintro rfl;rw[hf]at he;cases he
   simp[this]
 | none =>
  simp only[List.find?_append]
  cases he:l.find? (fun p=>decide (p.1=e))with
  | some q=>simp
  | none=>by_cases h:d=e<;>simp[h]
theorem zRH {d:Dig} {s:List UInt8} {l:BlL} (h:(l.map Prod.fst).Nodup):((zJm d s l).map Prod.fst).Nodup:=by
 unfold zJm
 cases hf:l.find? (fun p=>decide (p.1=d))with
 | some p=>exact h
 | none =>
  simp only[List.map_append,List.map_cons,List.map_nil]
  rw[List.nodup_append]
  refine⟨h,by simp,?_⟩
  intro a ha b hb
  simp only[List.mem_singleton]at hb
  subst hb
  rintro rfl
  obtain⟨p,hp,rfl⟩:=List.mem_map.1 ha
  have:=List.find?_eq_none.1 hf p hp
  simp at this
theorem zR0 {d:Dig} {s:List UInt8} {l:BlL} {p:Dig × List UInt8} (h:p∈zJm d s l):p∈l∨p=(d,s):=by
 unfold zJm at h
 split at h
 ·exact .inl h
 ·simpa using h
theorem zJu.put {mo N:Nat} {x:MV} (h:zJu mo N x) (s:List UInt8):zJu mo (N+wtB s) ⟨x.L,zJm (sha s) s x.bl⟩ :=
 ⟨h.ok,h.tr,h.row,h.rn,zRH h.nd,fun p hp=>by
  rcases zR0 hp with h1|rfl
  ·exact h.sh p h1
  ·rfl,by have:=zQx (s:=s) (d:=sha s) (l:=x.bl);have:=h.le;simp only;omega⟩
theorem zJu.add {mo N:Nat} {x:MV} (h:zJu mo N x) (hm:1≤mo) {t:zaP} (ht:TrG t):zJu mo (N+wtT t) ⟨zJj mo x.L t,x.bl⟩:=by
 refine⟨zOS hm h.ok t,?_,fun q=>?_,fun q=>?_,h.nd,h.sh,?_⟩
 ·exact zON (Q:=TrG) (K:=fun k=>k.length=32) h.tr ht ht.1.1
 ·show (getD (zJj mo x.L t) q).length≤mo
  rw[zKB]
  unfold zMN
  split
  ·exact zMb _ _ _
  ·exact h.row q
 ·show (getD (zJj mo x.L t) q).Nodup
  rw[zKB]
  unfold zMN
  split
  ·exact zOm (h.rn q)
  ·exact h.rn q
 ·have:=zQq (mo:=mo) (L:=x.L) (t:=t)
  have:=h.le
  simp only;omega
theorem zOz {mo:Nat} {r:List UInt8} {x y:MV} (h:K0 mo r x=(y,0)):(∃s,r=zJf s∧y=⟨x.L,zJm (sha s) s x.bl⟩)∨∃t,TrG t∧r=zJG t∧y=⟨zJj mo x.L t,x.bl⟩:=by
 unfold K0 at h
 split at h
 ·cases h
 rename_i ht
 have hr:=zMD (b:=r) (l:=(zD9 r).1) (by rw[←Classical.not_not.1 ht])
 split at h
 ·rename_i w s hl
  rw[hl]at hr
  split at h
  ·rename_i hw
   cases h
   exact .inl ⟨s,by rw[←hr,hw];rfl,rfl⟩
  split at h
  ·rename_i hw
   split at h
   ·rename_i hs
    cases h
    obtain⟨b1,b2,b3⟩:=zMe (b:=s) (t:=(zEz s).1) (by rw[←hs])
    refine .inr ⟨_,⟨b3,b2⟩,?_,rfl⟩
    rw[zJG,zL2,if_pos b2,b1,←hr,hw]
   ·rename_i hs;exact absurd (congrArg Prod.snd h) hs
  ·cases h
 ·cases h
theorem zJu.load {mo N:Nat} (hm:1≤mo) {r:List UInt8} {x y:MV} (h:zJu mo N x) (hl:K0 mo r x=(y,0)):zJu mo (N+(12+r.length)) y:=by
 rcases zOz hl with⟨s,rfl,rfl⟩|⟨t,ht,rfl,rfl⟩
 ·exact h.put s
 ·exact h.add hm ht
theorem zJu.loads {mo:Nat} (hm:1≤mo):∀ {l:List (List UInt8)} {N:Nat} {x y:MV},zJu mo N x→j5 mo l x=(y,0)→zJu mo (N+wtR l) y
 | [],N,x,y,h,e=>by cases e;exact h.up (by simp[wtR])
 | r::l,N,x,y,h,e=>by
  rw[j5]at e
  split at e
  ·rename_i h1
   have:=zJu.loads hm (h.load hm (y:=(K0 mo r x).1) (by rw[←h1])) e
   refine this.up ?_
   simp only[wtR,List.map_cons,List.sum_cons];omega
  ·rename_i h1;rw[e]at h1;exact absurd rfl h1
end Go.Proofs.YtcioeonlclpacaaGreatDoor
end
