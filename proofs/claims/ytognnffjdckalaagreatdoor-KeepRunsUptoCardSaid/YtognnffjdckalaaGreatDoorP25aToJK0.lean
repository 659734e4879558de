/- A row's text tells its texts. No condition. -/
import Derived.Test.YtognnffjdckalaaGreatDoorQ0ToP19
import Derived.Test.YtognnffjdckalaaGreatDoorS3ToS8
set_option linter.unusedSimpArgs false
set_option linter.unusedVariables false
set_option linter.unusedSectionVars false
set_option maxHeartbeats 64000000
set_option maxRecDepth 100000
namespace Go.Proofs.YtognnffjdckalaaGreatDoor
open Go Go.Ab
open Classical
section
variable [Sel] [SelPow]
def zr1 (l:List UInt8):Nat:=l.foldl (fun a b=>a*10+(b.toNat-48)) 0
theorem Y3 (u:Nat):zr1 (Lib.decDigits u)=u:=by
 induction u using Nat.strongRecOn with
 | ind u ih =>
  have key:∀d:Nat,d<10->(UInt8.ofNat (48+d)).toNat-48=d:=fun d hd=>by simp;omega
  rw[Lib.decDigits]
  split
  ·rename_i h
   simp only[zr1,List.foldl_cons,List.foldl_nil,key u h]
   omega
  ·rename_i h
   have:=ih (u / 10) (by omega)
   unfold zr1 at this |-
   rw[List.foldl_append,this]
   simp only[List.foldl_cons,List.foldl_nil,key (u % 10) (by omega)]
   omega
theorem yR (n:Nat):Lib.itoa (n:Int)=Lib.decDigits n:=by
 unfold Lib.itoa
 rw[if_neg (by omega)]
 simp
theorem ZR (s:List UInt8) (l:List (List UInt8)):k9 (s::l)=Lib.itoa s.length++58::(s++k9 l):=by
 simp[k9]
def be4 (n:Nat):List UInt8:=[UInt8.ofNat (n / 16777216),UInt8.ofNat (n / 65536),UInt8.ofNat (n / 256),UInt8.ofNat n]
def uS:List UInt8->Nat
 | [a,b,c,d]=>a.toNat*16777216+b.toNat*65536+c.toNat*256+d.toNat
 | _=>0
theorem znM {n:Nat} (h:n<4294967296):uS (be4 n)=n:=by
 simp[uS,be4];omega
def U4 (r:List UInt8):List UInt8:=be4 r.length++(sha (be4 r.length++r)).take 8
def frame (r:List UInt8):List UInt8:=U4 r++r
def qJ (l:List (List UInt8)):List UInt8:=l.flatMap frame
theorem QE (l:List UInt8):(sha l).length=32:=UR _
theorem pY (r:List UInt8):(U4 r).length=12:=by rfl
theorem QD (r:List UInt8):(frame r).length=12+r.length:=by simp[frame,pY]
def jY (b:List UInt8):Option (List UInt8) :=
 if b.length<12 then none else if 1048576<uS (b.take 4)\/b.length-12<uS (b.take 4) then none
 else if U4 ((b.drop 12).take (uS (b.take 4)))=b.take 12 then some ((b.drop 12).take (uS (b.take 4))) else none
def CQ:Nat->List UInt8->List (List UInt8)
 | 0,_=>[]
 | f+1,b=>match jY b with
  | none=>[]
  | some r=>r::CQ f (b.drop (12+r.length))
def jW (b:List UInt8):List (List UInt8):=CQ (b.length+1) b
theorem WS {b r:List UInt8} (h:jY b=some r):12+r.length<=b.length/\r.length<=1048576:=by
 grind [jY]
theorem zeB {r:List UInt8} (x:List UInt8) (h:r.length<=1048576):jY (frame r++x)=some r:=by
 have h4:(frame r++x).take 4=be4 r.length:=by rfl
 have h12:(frame r++x).take 12=U4 r:=by
  rfl
 have hd:(frame r++x).drop 12=r++x:=by
  rfl
 have hl:(frame r++x).length=12+r.length+x.length:=by rw[List.length_append,QD]
 unfold jY
 rw[h4,znM (by omega),h12,hd,if_neg (by omega),if_neg (by omega),List.take_append_of_le_length (by omega),List.take_of_length_le (by omega),if_pos rfl]
theorem zb9:∀ {f g:Nat} {b:List UInt8},b.length<f->b.length<g->CQ f b=CQ g b
 | 0,_,_,h,_=>by omega
 | _,0,_,_,h=>by omega
 | f+1,g+1,b,h1,h2=>by
  unfold CQ
  cases h:jY b with
  | none=>rfl
  | some r =>
   have:=(WS h).1
   simp only
   rw[zb9 (f:=f) (g:=g) (by rw[List.length_drop];omega) (by rw[List.length_drop];omega)]
theorem KD {b:List UInt8} (h:jY b=none):jW b=[]:=by simp[jW,CQ,h]
theorem XZ {b r:List UInt8} (h:jY b=some r):jW b=r::jW (b.drop (12+r.length)):=by
 have:=(WS h).1
 grind [jW,CQ,zb9]
theorem zg0 {r x:List UInt8} (h:r.length<=1048576):jW (frame r++x)=r::jW x:=by
 simp_all[XZ,zeB,QD]
theorem pL:∀ {l:List (List UInt8)} {x:List UInt8},(∀r∈l,r.length<=1048576)->jW (qJ l++x)=l++jW x
 | [],x,_=>by rfl
 | r::l,x,h=>by
  have ih:=pL (l:=l) (x:=x) fun y hy=>h y (List.mem_cons_of_mem _ hy)
  unfold qJ at ih |-
  rw[List.flatMap_cons,List.append_assoc,zg0 (h r (by simp)),ih];rfl
theorem PS:jW []=[]:=KD (by simp[jY])
theorem zkL {l:List (List UInt8)} (h:∀r∈l,r.length<=1048576):jW (qJ l)=l:=by
 have:=pL (x:=[]) h
 simp_all[PS]
theorem GR:∀(n:Nat) {b:List UInt8},b.length<=n->(qJ (jW b)).length<=b.length/\qJ (jW b)=b.take (qJ (jW b)).length/\∀r∈jW b,r.length<=1048576
 | 0,b,h=>by
  simp_all[PS,qJ]
 | n+1,b,h=>by
  cases hf:jY b with
  | none=>simp_all[KD,qJ]
  | some r =>
   obtain⟨h1,h2⟩:=WS hf
   obtain⟨i1,i2,i3⟩:=GR n (b:=b.drop (12+r.length)) (by grind)
   have hfr:b.take (12+r.length)=frame r:=by
    unfold jY at hf
    split at hf
    ·cases hf
    split at hf
    ·cases hf
    split at hf
    ·rename_i h5 h6 h7
     have hr:=Option.some.inj hf
     rw[hr]at h7
     have hn:uS (b.take 4)=r.length:=by
      grind
     rw[hn]at hr
     rw[List.take_add,<-h7,hr];rfl
    ·cases hf
   rw[XZ hf]
   have e:qJ (r::jW (b.drop (12+r.length)))=frame r++qJ (jW (b.drop (12+r.length))):=rfl
   grind
structure FV where
 data:List UInt8
 sure:Nat
structure DV where
 m:Option FV
 n:Option FV
 left:Int
def FOK (f:FV):Prop:=f.sure<=f.data.length
def DOK (d:DV):Prop:=(∀f,d.m=some f->FOK f)/\(∀f,d.n=some f->FOK f)/\-1<=d.left/\d.left<=9223372036854775807
def szF:Option FV->Nat
 | none=>0
 | some f=>f.data.length
def szD (d:DV):Nat:=szF d.m+szF d.n
def J0:DV:=⟨none,none,-1⟩
def jO (b:Bool) (d:DV):Option FV:=if b then d.n else d.m
def QF (b:Bool) (o:Option FV) (d:DV):DV:=if b then { d with n:=o } else { d with m:=o }
def w5 (d:DV):DV:={ d with left:=if 0<d.left then d.left-1 else d.left }
def XB (x:List UInt8):Option FV->FV
 | none=>⟨x,0⟩
 | some f=>⟨f.data++x,f.sure⟩
def qW (b:Bool) (x:List UInt8) (d:DV):DV × Int:=if d.left=0 then(d,18) else(QF b (some (XB x (jO b d))) (w5 d),0)
def jE (b:Bool) (d:DV):DV × Int:=match jO b d with
 | none=>(d,10)
 | some f=>if d.left=0 then(d,18) else(QF b (some ⟨f.data,f.data.length⟩) (w5 d),0)
def jL (d:DV):DV × Int:=match d.n with
 | none=>(d,10)
 | some f=>if d.left=0 then(d,18) else(⟨some f,none,(w5 d).left⟩,0)
def jN (d:DV):DV × Int:=match d.n with
 | none=>(d,10)
 | some f=>if d.left=0 then(d,18) else(⟨d.m,none,(w5 d).left⟩,0)
def ZH (n:Int) (d:DV):DV:={ d with left:=if n < -1 then -1 else n }
def X5 (p:Int) (u:Nat):Nat:=((p.tmod ((u:Int)+1)+u+1).tmod ((u:Int)+1)).toNat
def ZI (ps:List Int):Option FV->Option FV × List Int
 | none=>(none,ps)
 | some f=>if f.data.length<=f.sure then(some ⟨f.data,f.data.length⟩,ps)
  else(some ⟨f.data.take (f.sure+X5 (ps.headD 0) (f.data.length-f.sure)),f.sure+X5 (ps.headD 0) (f.data.length-f.sure)⟩,ps.drop 1)
def kP (ps:List Int) (d:DV):DV:=⟨(ZI ps d.m).1,(ZI (ZI ps d.m).2 d.n).1,-1⟩
theorem zlN (p:Int) (u:Nat):X5 p u<=u:=by
 unfold X5
 have h1:=Int.tmod_lt_of_pos (p.tmod ((u:Int)+1)+u+1) (b:=(u:Int)+1) (by omega)
 omega
structure JV where
 d:DV
 br:Bool
def thn (r:DV × Int) (f:DV->DV × Int):DV × Int:=if r.2=0 then f r.1 else r
def zL (d:DV):DV × Int:=if d.n.isSome then jN d else(d,0)
def kC (x:List UInt8) (d:DV):DV × Int:=thn (thn (qW true x d) (jE true)) jL
def JW:Option FV->List UInt8
 | none=>[]
 | some f=>f.data
def xM (d:DV):DV × Int × List (List UInt8) :=
 let b:=JW d.m
 let l:=jW b
 let n:=(qJ l).length
 if n<b.length then((kC (b.take n) d).1,(kC (b.take n) d).2,if (kC (b.take n) d).2=0 then l else []) else(d,0,l)
def openJ (d:DV):DV × Int × List (List UInt8):=if (zL d).2=0 then xM (zL d).1 else((zL d).1,(zL d).2,[])
def addJ (r:List UInt8) (j:JV):JV × Int :=
 if j.br then(j,19) else if 1048576<r.length then(j,6) else
  let x:=thn (qW false (frame r) j.d) (jE false)
  (⟨x.1,decide (x.2≠0)⟩,x.2)
def swapJ (l:List (List UInt8)) (j:JV):JV × Int :=
 if j.br then(j,19) else if l.any (fun r=>decide (1048576<r.length)) then(j,6) else
  let x:=thn (zL j.d) (kC (qJ l))
  (⟨x.1,decide (x.2≠0)⟩,x.2)
theorem zez {d:DV} (h:DOK d):-1<=(w5 d).left/\(w5 d).left<=9223372036854775807:=by
 obtain⟨_,_,h3,h4⟩:=h
 grind [w5]
theorem zru (d:DV):(w5 d).m=d.m/\(w5 d).n=d.n:=⟨rfl,rfl⟩
theorem zix {b:Bool} {f:FV} {d:DV} (h:DOK d) (hf:FOK f):DOK (QF b (some f) (w5 d)):=by
 obtain⟨t1,t2⟩:=zez h
 obtain⟨h1,h2,_,_⟩:=h
 cases b
 ·exact⟨fun g hg=>by cases hg;exact hf,fun g hg=>h2 g hg,t1,t2⟩
 ·exact⟨fun g hg=>h1 g hg,fun g hg=>by cases hg;exact hf,t1,t2⟩
theorem zdS {b:Bool} {d:DV} (h:DOK d) {f:FV} (hf:jO b d=some f):FOK f:=by
 cases b
 ·exact h.1 f hf
 ·exact h.2.1 f hf
theorem JZ {b:Bool} {x:List UInt8} {d:DV} (h:DOK d):DOK (qW b x d).1:=by
 unfold qW
 split
 ·exact h
 refine zix h ?_
 cases hg:jO b d with
 | none=>simp[XB,FOK]
 | some f=>have:=zdS h hg;grind [XB,FOK]
theorem zax {b:Bool} {d:DV} (h:DOK d):DOK (jE b d).1:=by
 grind [jE,zix,FOK]
theorem zhn {d:DV} (h:DOK d):DOK (jL d).1:=by
 unfold jL
 cases hg:d.n with
 | none=>exact h
 | some f =>
  simp only
  split
  ·exact h
  obtain⟨t1,t2⟩:=zez h
  exact⟨fun g hg'=>by cases hg';exact h.2.1 f hg,fun g hg'=>(by cases hg'),t1,t2⟩
theorem zaY {d:DV} (h:DOK d):DOK (jN d).1:=by
 unfold jN
 cases hg:d.n with
 | none=>exact h
 | some f =>
  simp only
  split
  ·exact h
  obtain⟨t1,t2⟩:=zez h
  exact⟨fun g hg'=>h.1 g hg',fun g hg'=>(by cases hg'),t1,t2⟩
theorem zhR {n:Int} {d:DV} (h:DOK d) (hn:n<=9223372036854775807):DOK (ZH n d) :=
 ⟨h.1,h.2.1,by grind [ZH],by grind [ZH]⟩
theorem vX {ps:List Int} {o:Option FV} (h:∀f,o=some f->FOK f):∀f,(ZI ps o).1=some f->FOK f/\f.sure=f.data.length/\szF (some f)<=szF o:=by
 intro f hf
 cases o with
 | none=>cases hf
 | some g =>
  have hg:=h g rfl
  unfold FOK at hg
  simp only[ZI]at hf
  by_cases hl:g.data.length<=g.sure
  ·rw[if_pos hl]at hf;cases hf;exact⟨Nat.le_refl _,rfl,Nat.le_refl _⟩
  ·rw[if_neg hl]at hf
   grind [zlN,FOK,szF]
theorem zkA {ps:List Int} {d:DV} (h:DOK d):DOK (kP ps d):=⟨fun f hf=>(vX h.1 f hf).1,fun f hf=>(vX h.2.1 f hf).1,by simp[kP],by simp[kP]⟩
theorem GU {d:DV} (h:DOK d):DOK (zL d).1:=by grind [zL,zaY]
theorem zp5:DOK J0:=⟨fun f h=>(by cases h),fun f h=>(by cases h),by decide,by decide⟩
end
section
variable [Sel]
def VG {α:Type} (p:α->Bool) (xs:List α):Int:=match xs.findIdx? p with|some i=>i|none=>-1
theorem zcx {α:Type} {p:α->Bool} {xs:List α} {k:Nat} (hlt:k<xs.length) (h0:∀x∈xs.take k,p x=false) (h1:p xs[k]=true):VG p xs=k:=by
 have:xs.findIdx? p=some k:=by
  rw[List.findIdx?_eq_some_iff_getElem]
  refine⟨hlt,h1,fun j hj=>?_⟩
  rw[h0 _ (List.mem_take_iff_getElem.2 ⟨j,by omega,rfl⟩)];simp
 simp[VG,this]
theorem zaX {α:Type} {p:α->Bool} {xs:List α} (h0:∀x∈xs,p x=false):VG p xs=-1:=by
 have:xs.findIdx? p=none:=by
  rw[List.findIdx?_eq_none_iff];exact h0
 simp[VG,this]
theorem zaJ {α:Type} (p:α->Bool) (xs:List α):(VG p xs=-1/\∀x∈xs,p x=false)\/∃(i:Nat) (h:i<xs.length),VG p xs=i/\p xs[i]=true/\∀x∈xs.take i,p x=false:=by
 unfold VG
 cases h:xs.findIdx? p with
 | none =>
  left;rw[List.findIdx?_eq_none_iff]at h
  exact⟨rfl,h⟩
 | some i =>
  right
  rw[List.findIdx?_eq_some_iff_getElem]at h
  obtain⟨hl,hp,hn⟩:=h
  refine⟨i,hl,rfl,hp,fun x hx=>?_⟩
  obtain⟨q,hq,rfl⟩:=List.mem_take_iff_getElem.1 hx
  simpa using hn q (by omega)
theorem zpG (A M:List AV) (m y:AV):(A++(m::M)).set A.length y=A++(y::M):=by
 rw[List.set_append_right _ _ (Nat.le_refl _)];simp
theorem YU {a b:Made}:qS a=qS b<->a=b:=by
 cases a;cases b;simp[qS,J4]
theorem wC {α β:Type} (f:α->β) (l:List α) (k:Nat) (h:k<l.length):(l.map f)[k]?=some (f l[k]):=by rw[List.getElem?_map,List.getElem?_eq_getElem h];rfl
theorem Y4 {α:Type} {a b:List α} (hl:a.length=b.length) (h:∀i (h1:i<a.length) (h2:i<b.length),a[i]=b[i]):a=b:=List.ext_getElem hl fun i h1 h2=>h i h1 h2
theorem zi1 (a b:List yH) (ha:a.length<=9223372036854775807) (hb:b.length<=9223372036854775807) :
  PC Tryz.prog 154 [.av (.slice 82) (qE a),.av (.slice 82) (qE b)] (.av .bool (.b (decide (a=b)))):=by
 refine zow Tryz.func154 cf0 fun imm0 w0=>?_
 by_cases hab:a.length=b.length
 rotate_left
 ·have h1:¬(a.length:Int)=b.length:=by omega
  have h2:¬a=b:=fun e=>hab (by rw[e])
  simp (disch:=omega) [zz,h1,qE,Tryz.f154,h2]
 have h1:(a.length:Int)=b.length:=by omega
 simp (disch:=omega) [zz,h1,qE]
 refine AT.loop' (α:=Nat) (fun k=>St.of [(0,.av (.slice 82) (qE a)),(1,.av (.slice 82) (qE b)),(12,.av (.int .i64) (.i .i64 b.length)),(13,.av (.int .i64) (.i .i64 k))] [] (fun _=>0) [])
  (fun k=>k<=b.length/\∀i,i<k->∀(h1:i<a.length) (h2:i<b.length),a[i]=b[i]) (fun k=>b.length-k) 0 ?_ ?_ ?_
 ·apply Le.of<;>simp[le9,qE]<;>try omega
 ·exact⟨by omega,fun i h=>by omega⟩
 rintro k ⟨hk,hall⟩ KL hN hE
 refine zrd cf0 ?_
 by_cases hlt:k<b.length
 ·have hlt':(k:Int)<b.length:=by omega
  have hga:=wC qV a k (by omega)
  have hgb:=wC qV b k hlt
  have hlta:(k:Int)<a.length:=by omega
  by_cases hc:a[k]=b[k]
  ·simp (disch:=omega) [zz,hlt',hlta,hga,hgb,qE,x6,hc]
   (repeat with_reducible refine om ?_)
   refine hN _ (k+1) ?_ ⟨by omega,fun i hi h1 h2=>?_⟩ (by omega)
   ·apply Le.of<;>simp[le9,qE]<;>try omega
   ·rcases Nat.lt_or_ge i k with h|h
    ·exact hall i h h1 h2
    ·have:i=k:=by omega
     subst this;exact hc
  ·have hne:¬a=b:=fun e=>hc (by subst e;rfl)
   simp (disch:=omega) [zz,hlt',hlta,hga,hgb,qE,x6,hc]
   (repeat with_reducible refine om ?_)
   refine hE _ _ (by simp) ?_
   simp (disch:=omega) [zz,Tryz.f154,hne]
 ·have hlt':¬(k:Int)<b.length:=by omega
  simp (disch:=omega) [zz,hlt',qE]
  refine hE _ _ (by simp) ?_
  have:a=b:=Y4 hab fun i h1 h2=>hall i (by omega) h1 h2
  simp (disch:=omega) [zz,Tryz.f154,this]
theorem zhl (a b:List Made) (ha:a.length<=9223372036854775807) (hb:b.length<=9223372036854775807) :
  PC Tryz.prog 155 [.av (.slice 77) (qF a),.av (.slice 77) (qF b)] (.av .bool (.b (decide (a=b)))):=by
 refine zow Tryz.func155 cf0 fun imm0 w0=>?_
 by_cases hab:a.length=b.length
 rotate_left
 ·have h1:¬(a.length:Int)=b.length:=by omega
  have h2:¬a=b:=fun e=>hab (by rw[e])
  simp (disch:=omega) [zz,h1,qF,Tryz.f155,h2]
 have h1:(a.length:Int)=b.length:=by omega
 simp (disch:=omega) [zz,h1,qF]
 refine AT.loop' (α:=Nat) (fun k=>St.of [(0,.av (.slice 77) (qF a)),(1,.av (.slice 77) (qF b)),(12,.av (.int .i64) (.i .i64 b.length)),(13,.av (.int .i64) (.i .i64 k))] [] (fun _=>0) [])
  (fun k=>k<=b.length/\∀i,i<k->∀(h1:i<a.length) (h2:i<b.length),a[i]=b[i]) (fun k=>b.length-k) 0 ?_ ?_ ?_
 ·apply Le.of<;>simp[le9,qF]<;>try omega
 ·exact⟨by omega,fun i h=>by omega⟩
 rintro k ⟨hk,hall⟩ KL hN hE
 refine zrd cf0 ?_
 by_cases hlt:k<b.length
 ·have hlt':(k:Int)<b.length:=by omega
  have hga:=wC qS a k (by omega)
  have hgb:=wC qS b k hlt
  have hlta:(k:Int)<a.length:=by omega
  by_cases hc:a[k]=b[k]
  ·simp (disch:=omega) [zz,hlt',hlta,hga,hgb,qF,YU,hc]
   (repeat with_reducible refine om ?_)
   refine hN _ (k+1) ?_ ⟨by omega,fun i hi h1 h2=>?_⟩ (by omega)
   ·apply Le.of<;>simp[le9,qF]<;>try omega
   ·rcases Nat.lt_or_ge i k with h|h
    ·exact hall i h h1 h2
    ·have:i=k:=by omega
     subst this;exact hc
  ·have hne:¬a=b:=fun e=>hc (by subst e;rfl)
   simp (disch:=omega) [zz,hlt',hlta,hga,hgb,qF,YU,hc]
   (repeat with_reducible refine om ?_)
   refine hE _ _ (by simp) ?_
   simp (disch:=omega) [zz,Tryz.f155,hne]
 ·have hlt':¬(k:Int)<b.length:=by omega
  simp (disch:=omega) [zz,hlt',qF]
  refine hE _ _ (by simp) ?_
  have:a=b:=Y4 hab fun i h1 h2=>hall i (by omega) h1 h2
  simp (disch:=omega) [zz,Tryz.f155,this]
def uN (t:qD):Prop:=t.reads.length<=9223372036854775807/\t.outs.length<=9223372036854775807
def wT (a b:qD):Bool:=decide (a.key=b.key/\a.reads=b.reads/\a.outs=b.outs)
theorem WM {a b:qD}:wT a b=true<->a=b:=by cases a;cases b;simp[wT]
theorem zoY (a b:qD) (ha:uN a) (hb:uN b):PC Tryz.prog 102 [.av (q8 Tryz.prog 56) (q5 a),.av (q8 Tryz.prog 56) (q5 b)] (.av .bool (.b (wT a b))):=by
 refine zow Tryz.func102 cf0 fun imm0 w0=>?_
 by_cases h1:a.key=b.key
 ·simp (disch:=omega) [zz,q5,qK,j9,h1]
  refine YE (zi1 a.reads b.reads ha.1 hb.1) rfl rfl (by simp) (by simp[q9,TV.er]) ?_
  by_cases h2:a.reads=b.reads
  ·simp (disch:=omega) [zz,h2,q5]
   refine YE (zhl a.outs b.outs ha.2 hb.2) rfl rfl (by simp) (by simp[q9,TV.er]) ?_
   simp (disch:=omega) [zz,h2,Tryz.f102,wT,h1]
  ·simp (disch:=omega) [zz,h2,Tryz.f102,wT,h1]
 ·simp (disch:=omega) [zz,q5,qK,j9,h1,Tryz.f102,wT]
theorem zgg (a b:qD) (ha:uN a) (hb:uN b):PC Tryz.prog 81 [.av (q8 Tryz.prog 56) (q5 a),.av (q8 Tryz.prog 56) (q5 b)] (.av .bool (.b (wT a b))):=by
 obtain⟨ha1,ha2⟩:=ha
 obtain⟨hb1,hb2⟩:=hb
 refine zow Tryz.func81 cf0 fun imm0 w0=>?_
 by_cases h1:a.key=b.key
 rotate_left
 ·simp (disch:=omega) [zz,q5,qK,j9,h1,Tryz.f81,wT]
 by_cases h2:a.reads.length=b.reads.length
 rotate_left
 ·have h2':¬(a.reads.length:Int)=b.reads.length:=by omega
  have h3:¬a.reads=b.reads:=fun e=>h2 (by rw[e])
  simp (disch:=omega) [zz,q5,qE,qK,j9,h1,h2',Tryz.f81,wT,h3]
 have h2':(a.reads.length:Int)=b.reads.length:=by omega
 by_cases h3:a.outs.length=b.outs.length
 rotate_left
 ·have h3':¬(a.outs.length:Int)=b.outs.length:=by omega
  have h4:¬a.outs=b.outs:=fun e=>h3 (by rw[e])
  simp (disch:=omega) [zz,q5,qE,qF,qK,j9,h1,h2',h3',Tryz.f81,wT,h4]
 have h3':(a.outs.length:Int)=b.outs.length:=by omega
 simp (disch:=omega) [zz,q5,qE,qF,qK,j9,h1,h2',h3']
 refine AT.loop' (α:=Nat) (fun k=>St.of [(2,.loc 2 []),(3,.loc 3 []),(5,.av (.int .i64) (.i .i64 k))] [(2,(q8 Tryz.prog 56,q5 a)),(3,(q8 Tryz.prog 56,q5 b))] (fun _=>0) [])
  (fun k=>k<=b.reads.length/\∀i,i<k->∀(h1:i<a.reads.length) (h2:i<b.reads.length),a.reads[i]=b.reads[i]) (fun k=>b.reads.length-k) 0 ?_ ?_ ?_
 ·apply Le.of<;>simp[le9,q5,qE,qF,qK,h1]<;>try omega
 ·exact⟨by omega,fun i h=>by omega⟩
 rintro k ⟨hk,hall⟩ KL hN hE
 refine zrd cf0 ?_
 by_cases hlt:k<b.reads.length
 ·have hlt':(k:Int)<b.reads.length:=by omega
  have hga:=wC qV a.reads k (by omega)
  have hgb:=wC qV b.reads k hlt
  have hlta:(k:Int)<a.reads.length:=by omega
  by_cases hc:a.reads[k]=b.reads[k]
  ·simp (disch:=omega) [zz,hlt',hlta,hga,hgb,q5,qE,x6,hc]
   (repeat with_reducible refine om ?_)
   refine hN _ (k+1) ?_ ⟨by omega,fun i hi h1 h2=>?_⟩ (by omega)
   ·apply Le.of<;>simp[le9,q5,qE]<;>try omega
   ·rcases Nat.lt_or_ge i k with h|h
    ·exact hall i h h1 h2
    ·have:i=k:=by omega
     subst this;exact hc
  ·have hne:¬a.reads=b.reads:=fun e=>hc (by simp[e])
   simp (disch:=omega) [zz,hlt',hlta,hga,hgb,q5,qE,x6,hc]
   (repeat with_reducible refine om ?_)
   refine hE _ _ (by simp) ?_
   simp (disch:=omega) [zz,Tryz.f81,wT,hne]
 have hlt':¬(k:Int)<a.reads.length:=by omega
 have hr:a.reads=b.reads:=Y4 h2 fun i h1 h2=>hall i (by omega) h1 h2
 simp (disch:=omega) [zz,hlt',q5,qE]
 refine hE _ _ (by simp) ?_
 simp (disch:=omega) [zz,q5,qF]
 refine AT.loop' (α:=Nat) (fun k=>St.of [(2,.loc 2 []),(3,.loc 3 []),(6,.av (.int .i64) (.i .i64 k))] [(2,(q8 Tryz.prog 56,q5 a)),(3,(q8 Tryz.prog 56,q5 b))] (fun _=>0) [])
  (fun k=>k<=b.outs.length/\∀i,i<k->∀(h1:i<a.outs.length) (h2:i<b.outs.length),a.outs[i]=b.outs[i]) (fun k=>b.outs.length-k) 0 ?_ ?_ ?_
 ·apply Le.of<;>simp[le9,q5,qE,qF]<;>try omega
 ·exact⟨by omega,fun i h=>by omega⟩
 rintro k2 ⟨hk2,hall2⟩ KL2 hN2 hE2
 refine zrd cf0 ?_
 by_cases hlt2:k2<b.outs.length
 ·have hlt2':(k2:Int)<b.outs.length:=by omega
  have hga:=wC qS a.outs k2 (by omega)
  have hgb:=wC qS b.outs k2 hlt2
  have hlta:(k2:Int)<a.outs.length:=by omega
  by_cases hc:a.outs[k2]=b.outs[k2]
  ·simp (disch:=omega) [zz,hlt2',hlta,hga,hgb,q5,qF,YU,hc]
   (repeat with_reducible refine om ?_)
   refine hN2 _ (k2+1) ?_ ⟨by omega,fun i hi h1 h2=>?_⟩ (by omega)
   ·apply Le.of<;>simp[le9,q5,qF]<;>try omega
   ·rcases Nat.lt_or_ge i k2 with h|h
    ·exact hall2 i h h1 h2
    ·have:i=k2:=by omega
     subst this;exact hc
  ·have hne:¬a.outs=b.outs:=fun e=>hc (by simp[e])
   simp (disch:=omega) [zz,hlt2',hlta,hga,hgb,q5,qF,YU,hc]
   (repeat with_reducible refine om ?_)
   refine hE2 _ _ (by simp) ?_
   simp (disch:=omega) [zz,Tryz.f81,wT,hne]
 ·have hlt2':¬(k2:Int)<a.outs.length:=by omega
  have ho:a.outs=b.outs:=Y4 h3 fun i h1 h2=>hall2 i (by omega) h1 h2
  simp (disch:=omega) [zz,hlt2',q5,qF]
  refine hE2 _ _ (by simp) ?_
  simp (disch:=omega) [zz,Tryz.f81,wT,hr,ho,h1]
theorem K8 (a b:List AV):AV.erks (a++b)=AV.erks a++AV.erks b:=by simp[AV.erks_eq]
def JK (j:List AV):Prop:=AV.erks j=j
theorem JK.app {a b:List AV} (ha:JK a) (hb:JK b):JK (a++b):=by unfold JK at *;rw[K8,ha,hb]
theorem JK.nil:JK []:=rfl
theorem JK.take {a:List AV} (h:JK a) (n:Nat):JK (a.take n):=by
 unfold JK at *;rw[AV.erks_eq]at *;rw[List.map_take,h]
theorem JK.drop {a:List AV} (h:JK a) (n:Nat):JK (a.drop n):=by
 unfold JK at *;rw[AV.erks_eq]at *;rw[List.map_drop,h]
theorem JK.rep {z:AV} (h:z.erk=z) (n:Nat):JK (List.replicate n z):=by
 unfold JK;rw[AV.erks_eq,List.map_replicate,h]
end
end Go.Proofs.YtognnffjdckalaaGreatDoor
