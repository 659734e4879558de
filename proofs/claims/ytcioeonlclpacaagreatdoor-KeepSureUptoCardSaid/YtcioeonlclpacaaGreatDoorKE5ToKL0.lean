/- A Keep is opened: the program. No condition beyond each theorem's own. -/
import Derived.Test.YtcioeonlclpacaaGreatDoorKE3ToKD2
import Derived.Test.YtcioeonlclpacaaGreatDoorKP4ToKB1
import Derived.Test.YtcioeonlclpacaaGreatDoorPM0ToD9a
import Derived.Test.YtcioeonlclpacaaGreatDoorVCaToP14
import Derived.Test.YtcioeonlclpacaaGreatDoorE2ToE5
import Derived.Test.YtcioeonlclpacaaGreatDoorS3ToS8
set_option linter.unusedSimpArgs false
set_option linter.unusedVariables false
set_option linter.unusedSectionVars false
section
set_option maxRecDepth 100000
namespace Go.Proofs.YtcioeonlclpacaaGreatDoor
open Go Go.Ab
open Classical
variable [Sel] [SelPow] [SelErr]
theorem zOa {mo:Nat} (l:List (List UInt8)) (x:MV) (i:Nat) (h:i<l.length) (h0:(j5 mo (l.take i) x).2=0) :
  ((K0 mo l[i] (j5 mo (l.take i) x).1).2=0→j5 mo (l.take (i+1)) x=K0 mo l[i] (j5 mo (l.take i) x).1)∧((K0 mo l[i] (j5 mo (l.take i) x).1).2≠0→(j5 mo l x).2=(K0 mo l[i] (j5 mo (l.take i) x).1).2):=by
 have e0:j5 mo (l.take i) x=((j5 mo (l.take i) x).1,0):=by rw[←h0]
 refine⟨fun hz=>?_,fun hz=>?_⟩
 ·rw[List.take_succ_eq_append_getElem h,zJw e0,j5,if_pos hz,j5,←hz]
 ·have e:l=l.take i++(l[i]::l.drop (i+1)):=by rw[←List.drop_eq_getElem_cons h,List.take_append_drop]
  conv=>lhs;rw[e]
  rw[zJw e0,j5,if_neg hz]
def zKD (B M:Nat) (x:DV × Option KV × Int) (r:TV) (H':q8):Prop :=
 (x.2.1=none∧x.2.2≠0∧r=.tup [(.ptr,.nilptr),(.int .i64,.i .i64 x.2.2)]∧zJN B M x.1 H')∨
 (∃k K,x.2.1=some k∧r=.tup [(.ptr,.ptr K KpT []),(.int .i64,.i .i64 0)]∧KpR K B M k H')
theorem zKD.bad {B M:Nat} {o:Bool} {x:DV × Option KV × Int} {r:TV} {H':q8} (h:x.2.1=none) (h2:x.2.2≠0) (hr:r=.tup [(.ptr,.nilptr),(.int .i64,.i .i64 x.2.2)]) (hH:H'=j4 B M o x.1):zKD B M x r H':=.inl ⟨h,h2,hr,by rw[hH];exact zJN.of⟩
theorem zPD (l:List (List UInt8)) (i:Nat) (h:i<l.length):wtR (l.take i)+(12+l[i].length)≤wtR l:=by
 have e:l=l.take i++(l[i]::l.drop (i+1)):=by rw[←List.drop_eq_getElem_cons h,List.take_append_drop]
 conv=>rhs;rw[e]
 simp only[wtR,List.map_append,List.sum_append,List.map_cons,List.sum_cons]
 omega
theorem zSD (K B M:Nat) (a:KA) (k:KV):HSub (j4 B M a.o k.j.d) (kpH K B M a k) :=
 ⟨_,zOR K B M a k,by
  unfold jH
  exact(List.sublist_append_left (j4 B M a.o k.j.d) _).cons _⟩
abbrev zTe:Cfg:=⟨fun n=>n==35,fun _=>false⟩
set_option maxHeartbeats 16000000 in
theorem zQH (B M:Nat) (hBM:M≠B) (o:Bool) (d:DV) (mo:Int) (N:Nat) (hN:N≤1000000000) (hd:g8 N d) :
  q7 Tryz.prog 12 [.av .ptr (.ptr B zJB []),.av (.int .i64) (.i .i64 mo)] (j4 B M o d) (zKD B M (zJv mo d)):=by
 refine q7.sub (R:=fun r H'=>∃H2,Ab.HSub H2 H'∧zKD B M (zJv mo d) r H2) ?_ (fun r H' ⟨H2,h2,h3⟩ _=>⟨H2,h2,h3⟩)
 have hz1:=hd.m
 have hz2:=hd.n
 obtain⟨hj1,hj2⟩:=hd.openJ
 refine zov Tryz.func12 zTe fun imm0 w0=>?_
 simp (disch:=omega) [zz]
 by_cases hmo:mo<1∨8<mo
 ·have ho:zJv mo d=(d,none,2):=by unfold zJv;rw[if_pos hmo]
  refine zcv (zQA mo hmo) ?_
  rw[ho]
  simp (disch:=omega) [zz,Tryz.f12]
  exact⟨_,HSub.refl _,zKD.bad rfl (by simp) rfl rfl⟩
 obtain⟨m,hm⟩:∃m:Nat,m=mo.toNat:=⟨_,rfl⟩
 have hmm:mo=(m:Int):=by omega
 have ho:zJv mo d=if (openJ d).2.1≠0 then((openJ d).1,none,(openJ d).2.1) else if (j5 m (openJ d).2.2 ⟨[],[]⟩).2≠0 then((openJ d).1,none,(j5 m (openJ d).2.2 ⟨[],[]⟩).2) else((openJ d).1,some ⟨⟨(openJ d).1,false⟩,m,(j5 m (openJ d).2.2 ⟨[],[]⟩).1⟩,0):=by unfold zJv;rw[if_neg hmo,←hm]
 obtain⟨X,hX⟩:∃X,X=zJv mo d:=⟨_,rfl⟩
 rw[←hX]at ho ⊢
 subst hmm
 have hm1:1≤m:=by omega
 have hm8:m≤8:=by omega
 refine qE [] (j4 B M o d) (List.Perm.refl _) rfl (by simp[qQ]) (by simp) (R:=fun r H'=>∃D E,r=.tup [(.ptr,.ptr D DbT []),(.int .i64,.i .i64 0)]∧H'=DbH D E m []) ?_ ?_
 ·simpa[TV.er,AV.er,q8.er_nil]using zR2 m hm1 hm8
 rintro r' H' ⟨D,E,rfl,rfl⟩ hnd
 refine⟨_,HSub.refl _,?_⟩
 simp (disch:=omega) [zz]
 refine qE (j4 B M o d) (DbH D E m []) List.perm_append_comm rfl (by simp[qQ]) (by simp) (R:=zJW B M (openJ d)) ?_ ?_
 ·rw[zKy]
  exact q7.args (zR7 B M hBM o d hd.ok (by omega) (by omega)) (by simp[qS,TV.er,AV.er,nmK])
 obtain⟨⟨d',e,l⟩,hj⟩:∃x,openJ d=x:=⟨_,rfl⟩
 rw[hj]at hj1 hj2 ho ⊢
 simp only at hj1 hj2 ho
 rintro r' H' hR hnd2
 rcases hR with⟨he,rfl,o1,rfl⟩|⟨he,J,hJB,hJM,rfl,o1,rfl⟩
 ·simp only at he
  refine⟨_,HSub.refl _,?_⟩
  rw[if_pos he]at ho
  simp (disch:=omega) [zz,he,Tryz.f12]
  exact⟨j4 B M o1 d',HSub.of_sub (List.sublist_append_left _ _),zKD.bad (by rw[ho]) (by rw[ho];exact he) (by rw[ho]) (by rw[ho])⟩
 simp only at he
 subst he
 refine⟨_,HSub.refl _,?_⟩
 simp (disch:=omega) [zz]
 refine qE [] (jH J B M o1 ⟨d',false⟩++DbH D E m []) (List.Perm.refl _) rfl (by simp[qQ]) (by simp) (R:=fun r H'=>∃S T,T≠S∧r=.av .ptr (.ptr S zKp [])∧H'=stB S T []) ?_ ?_
 ·simpa[TV.er,AV.er,q8.er_nil,stB,szB]using zRy
 rintro r' H' ⟨S,T,hTS,rfl,rfl⟩ hnd3
 refine⟨jH J B M o1 ⟨d',false⟩++(DbH D E m []++stB S T []),HSub.of_perm (by rw[←List.append_assoc];exact List.perm_append_comm (l₁:=stB S T []) (l₂:=jH J B M o1 ⟨d',false⟩++DbH D E m [])),?_⟩
 rw[if_neg (by simp)]at ho
 simp (disch:=omega) [zz]
 intro K hK0 hK1 hK2
 obtain⟨L,hL⟩:∃L:Nat→MV × Int,L=fun i=>j5 m (l.take i) ⟨[],[]⟩:=⟨_,rfl⟩
 have hL0:L 0=(⟨[],[]⟩,0):=by rw[hL];rfl
 have hLn:L l.length=j5 m l ⟨[],[]⟩:=by rw[hL];simp
 rw[←hLn]at ho
 refine AT.loop' (α:=Nat × KA) (fun x=>St.of [(10,.av .ptr (.ptr K KpT [])),(36,.av StS (.sl .no (zz6 l))),(37,.av (.int .i64) (.i .i64 l.length)),(38,.av (.int .i64) (.i .i64 x.1))] [] (fun _=>0) (kpH K B M x.2 ⟨⟨d',false⟩,m,(L x.1).1⟩))
  (fun x=>x.1≤l.length∧(L x.1).2=0∧zJL x.2 ⟨⟨d',false⟩,m,(L x.1).1⟩) (fun x=>l.length-x.1) (0,⟨J,D,E,S,T,o1,[]⟩) ?_ ?_ ?_
 ·apply Le.of<;>simp[qU,qG,qO,qH,qP,qK,qF,qI,qJ,qN,kpH,hL0,kpO]<;>try omega
 ·refine⟨by simp,by rw[hL0],⟨by simp,by rw[hL0];rfl⟩⟩
 rintro⟨i,a⟩ ⟨hi,hl0,hka⟩ KL hN hE
 simp only at hi hl0 hka hN
 refine qM (cf:=cf0) laid mixed _ _ _ (by kernel_rfl) ?_
 by_cases hlt:i<l.length
 ·have hlt':(i:Int)<l.length:=by omega
  have hgn:=zzr l i hlt
  have hlen:=(zPD l i hlt)
  have hll:=zRP l
  have hinv:=zJu.loads (mo:=m) hm1 zJu.nil (l:=l.take i) (y:=(L i).1) (by rw[←hl0,hL])
  have hsz:=zN7 (L i).1.bl
  have hle:=hinv.le
  have hst:=zOa (mo:=m) l ⟨[],[]⟩ i hlt (by rw[hL]at hl0;exact hl0)
  have hLi:∀i,j5 m (l.take i) ⟨[],[]⟩=L i:=fun i=>by rw[hL]
  rw[hLi,hLi,←hLn]at hst
  obtain⟨x,hx⟩:∃x,x=l[i]:=⟨_,rfl⟩
  rw[←hx]at hgn hlen hst
  have hld:=zQd K B M a ⟨⟨d',false⟩,m,(L i).1⟩ hka hm1 hm8 (by simp only;omega) x (by omega)
  simp (disch:=omega) [zz,hlt',hgn]
  refine qE (kpH K B M a ⟨⟨d',false⟩,m,(L i).1⟩) [] (by simp) rfl (by simp[qQ]) (by simp) (R:=fun r H'=>r=.av (.int .i64) (.i .i64 (K0 m x (L i).1).2)∧KpR K B M ⟨⟨d',false⟩,m,(K0 m x (L i).1).1⟩ H') ?_ ?_
  ·rw[u4 hka]
   simpa[TV.er,AV.er]using hld
  rintro r' H' ⟨rfl,a2,hk2,rfl⟩ _
  refine⟨_,by rw[List.append_nil];exact HSub.refl _,?_⟩
  by_cases hz:(K0 m x (L i).1).2=0
  ·have hst1:=hst.1 hz
   rw[←hst1]at hk2 hz ⊢
   simp (disch:=omega) [zz,hz]
   refine hN _ (i+1,a2) ?_ ⟨by simp only;omega,hz,hk2⟩ (by simp only;omega)
   apply Le.of<;>simp[qU,qG,qO,qH,qP,qK,qF,qI,qJ,qN,]<;>try omega
  ·have hst2:=hst.2 hz
   rw[if_pos (by rw[hst2];exact hz),hst2]at ho
   simp (disch:=omega) [zz,hz]
   refine hE _ _ (by simp) ?_
   simp (disch:=omega) [zz,Tryz.f12,u4 hk2]
   exact⟨_,zSD K B M a2 _,zKD.bad (o:=a2.o) (by rw[ho]) (by rw[ho];exact hz) (by rw[ho]) (by rw[ho])⟩
 ·have hie:i=l.length:=by omega
  subst hie
  have hlt':¬(l.length:Int)<l.length:=by omega
  rw[if_neg (by rw[hl0];simp)]at ho
  simp (disch:=omega) [zz,hlt']
  refine hE _ _ (by simp) ?_
  simp (disch:=omega) [zz,Tryz.f12,u4 hka]
  exact⟨_,HSub.refl _,.inr ⟨_,K,by rw[ho],rfl,KpR.of hka⟩⟩
@[simp] theorem zxb:qZ Tryz.prog 8=true:=by kernel_rfl
@[simp] theorem zxB:z8 Tryz.prog (.func 8)=false:=q9 zxb
@[simp] theorem zxc:qZ Tryz.prog 9=true:=by kernel_rfl
@[simp] theorem zxC:z8 Tryz.prog (.func 9)=false:=q9 zxc
@[simp] theorem zwP:qZ Tryz.prog 10=true:=by kernel_rfl
@[simp] theorem zxt:z8 Tryz.prog (.func 10)=false:=q9 zwP
@[simp] theorem zoA:qZ Tryz.prog 14=true:=by kernel_rfl
@[simp] theorem zrs:z8 Tryz.prog (.func 14)=false:=q9 zoA
@[simp] theorem zop:qZ Tryz.prog 20=true:=by kernel_rfl
@[simp] theorem zs2:z8 Tryz.prog (.func 20)=false:=q9 zop
@[simp] theorem zpK:qZ Tryz.prog 7=true:=by kernel_rfl
@[simp] theorem ztn:z8 Tryz.prog (.func 7)=false:=q9 zpK
structure zJk where
 key:Int
 reads:List XF
 outs:List U1
 odd:Int
def y3 (o:zJk):AV:=.agg [.i .u8 o.key,qF o.reads,zU o.outs,.i .u8 o.odd]
structure zNb where
 kind:Int
 n:Int
 one:zJk
 picks:List Int
def zJt (a:zNb):AV:=.agg [.i .i64 a.kind,.i .i64 a.n,y3 a.one,zJY a.picks]
noncomputable abbrev zSb:TyD:=qD Tryz.prog 29
noncomputable abbrev UI:TyD:=qD Tryz.prog 32
def szO (l:List U1):Nat:=(l.map fun f=>f.path.length+f.data.length+1).sum
def szR (l:List XF):Nat:=(l.map fun r=>r.path.length+10).sum
def szA (a:zNb):Nat:=1+a.picks.length+szO a.one.outs+szR a.one.reads
def zKx (l:List zNb):Nat:=(l.map szA).sum
theorem zR9 (l:List U1) (i:Nat) (h:i<l.length):szO (l.take (i+1))=szO (l.take i)+(l[i].path.length+l[i].data.length+1):=by
 rw[List.take_succ_eq_append_getElem h];simp only[szO,List.map_append,List.sum_append,List.map_cons,List.map_nil,List.sum_cons,List.sum_nil,Nat.add_zero]
theorem zQP (l:List XF) (i:Nat) (h:i<l.length):szR (l.take (i+1))=szR (l.take i)+(l[i].path.length+10):=by
 rw[List.take_succ_eq_append_getElem h];simp only[szR,List.map_append,List.sum_append,List.map_cons,List.map_nil,List.sum_cons,List.sum_nil,Nat.add_zero]
theorem zQ0 (l:List zNb) (i:Nat) (h:i<l.length):zKx (l.take (i+1))=zKx (l.take i)+szA l[i]:=by
 rw[List.take_succ_eq_append_getElem h];simp only[zKx,List.map_append,List.sum_append,List.map_cons,List.map_nil,List.sum_cons,List.sum_nil,Nat.add_zero]
theorem zNp {α:Type} (f:α→Nat) (l:List α) (i:Nat):((l.take i).map f).sum≤(l.map f).sum:=by
 conv=>rhs;rw[←List.take_append_drop i l,List.map_append,List.sum_append]
 omega
theorem zKn (l:List U1):l.length≤szO l:=by
 induction l with
 | nil=>simp
 | cons f l ih=>simp only[szO,List.map_cons,List.sum_cons,List.length_cons]at ih ⊢;omega
theorem zNa (l:List XF):l.length≤szR l:=by
 induction l with
 | nil=>simp
 | cons f l ih=>simp only[szR,List.map_cons,List.sum_cons,List.length_cons]at ih ⊢;omega
theorem zQb (l:List zNb):l.length≤zKx l:=by
 induction l with
 | nil=>simp
 | cons f l ih=>simp only[zKx,szA,List.map_cons,List.sum_cons,List.length_cons]at ih ⊢;omega
def zKK (l:List zNb):Bool:=decide (2500<zKx l)||decide (25<l.length)
theorem zKP (o:zJk):(y3 o).er=y3 o:=by simp[y3,AV.er,AV.ers,zdW]
theorem zQk (l:List Int):(zJY l).er=zJY l:=by simp[zJY,AV.er,AV.ers_eq,Function.comp_def]
theorem zQi (l:List zNb) (k:Nat) (h:k<l.length):(l.map zJt)[k]?=some (zJt l[k]):=by simp[List.getElem?_eq_getElem h]
theorem zPH (l:List XF) (k:Nat) (h:k<l.length):(l.map qI)[k]?=some (qI l[k]):=by simp[List.getElem?_eq_getElem h]
set_option maxHeartbeats 16000000 in
theorem zMI (l:List zNb) (hl:zKx l≤1000000000000000):PC Tryz.prog 8 [.av (.slice 32) (.sl .no (l.map zJt))] (.av .bool (.b (zKK l))):=by
 have hll:=zQb l
 refine zow Tryz.func8 cf0 fun imm0 w0=>?_
 simp (disch:=omega) [zz]
 refine AT.loop' (α:=Nat) (fun i=>St.of [(0,.av (.slice 32) (.sl .no (l.map zJt))),(3,.av (.int .i64) (.i .i64 (zKx (l.take i)))),(10,.av (.slice 32) (.sl .no (l.map zJt))),(11,.av (.int .i64) (.i .i64 l.length)),(12,.av (.int .i64) (.i .i64 i))] [] (fun _=>0) [])
  (fun i=>i≤l.length) (fun i=>l.length-i) 0 ?_ ?_ ?_
 ·apply Le.of<;>simp[qU,qG,qO,qH,qP,qK,qF,qI,qJ,qN,zKx]<;>try omega
 ·simp
 rintro i hi KL hN hE
 refine qM (cf:=cf0) laid mixed _ _ _ (by kernel_rfl) ?_
 by_cases hlt:i<l.length
 ·have hlt':(i:Int)<l.length:=by omega
  have hga:=zQi l i hlt
  have hta:=zQ0 l i hlt
  have hpa:=zNp szA l (i+1)
  have hpa2:zKx (l.take (i+1))≤zKx l:=hpa
  obtain⟨a,ha⟩:∃a,a=l[i]:=⟨_,rfl⟩
  rw[←ha]at hga hta
  have hsz:szA a=1+a.picks.length+szO a.one.outs+szR a.one.reads:=rfl
  have hol:=zKn a.one.outs
  have hrl:=zNa a.one.reads
  simp (disch:=omega) [zz,hlt',hga,zJt,y3,zJY,zU,qF]
  obtain⟨S,hS⟩:∃S,S=zKx (l.take i):=⟨_,rfl⟩
  rw[←hS]at hta ⊢
  refine AT.loop' (α:=Nat) (fun j=>St.of [(0,.av (.slice 32) (.sl .no (l.map zJt))),(3,.av (.int .i64) (.i .i64 (S+(1+a.picks.length)+szO (a.one.outs.take j)))),(5,.loc 5 []),(10,.av (.slice 32) (.sl .no (l.map zJt))),(11,.av (.int .i64) (.i .i64 l.length)),(12,.av (.int .i64) (.i .i64 i)),(24,.av (.slice 36) (.sl .no (a.one.outs.map jZ))),(25,.av (.int .i64) (.i .i64 a.one.outs.length)),(26,.av (.int .i64) (.i .i64 j))] [(5,(UI,zJt a))] (fun _=>0) [])
   (fun j=>j≤a.one.outs.length) (fun j=>a.one.outs.length-j) 0 ?_ ?_ ?_
  ·apply Le.of<;>simp[qU,qG,qO,qH,qP,qK,qF,qI,qJ,qN,szO,zJt,y3,zJY,zU,qF]<;>try omega
  ·simp
  rintro j hj KL2 hN2 hE2
  refine qM (cf:=cf0) laid mixed _ _ _ (by kernel_rfl) ?_
  by_cases hlt2:j<a.one.outs.length
  ·have hlt2':(j:Int)<a.one.outs.length:=by omega
   have hgf:=zK1 a.one.outs j hlt2
   have htf:=zR9 a.one.outs j hlt2
   have hpf:=zNp (fun f:U1=>f.path.length+f.data.length+1) a.one.outs (j+1)
   have hpf2:szO (a.one.outs.take (j+1))≤szO a.one.outs:=hpf
   obtain⟨f,hf⟩:∃f,f=a.one.outs[j]:=⟨_,rfl⟩
   rw[←hf]at hgf htf
   simp (disch:=omega) [zz,hlt2',hgf,jZ]
   refine hN2 _ (j+1) ?_ (by omega) (by omega)
   apply Le.of<;>simp[qU,qG,qO,qH,qP,qK,qF,qI,qJ,qN,htf]<;>try omega
  ·have hlt2':¬(j:Int)<a.one.outs.length:=by omega
   have htk:a.one.outs.take j=a.one.outs:=List.take_of_length_le (by omega)
   rw[htk]
   simp (disch:=omega) [zz,hlt2']
   refine hE2 _ _ (by simp) ?_
   simp (disch:=omega) [zz,zJt,y3,qF]
   refine AT.loop' (α:=Nat) (fun j=>St.of [(0,.av (.slice 32) (.sl .no (l.map zJt))),(3,.av (.int .i64) (.i .i64 (S+(1+a.picks.length)+szO a.one.outs+szR (a.one.reads.take j)))),(10,.av (.slice 32) (.sl .no (l.map zJt))),(11,.av (.int .i64) (.i .i64 l.length)),(12,.av (.int .i64) (.i .i64 i)),(43,.av (.slice 105) (.sl .no (a.one.reads.map qI))),(44,.av (.int .i64) (.i .i64 a.one.reads.length)),(45,.av (.int .i64) (.i .i64 j))] [] (fun _=>0) [])
    (fun j=>j≤a.one.reads.length) (fun j=>a.one.reads.length-j) 0 ?_ ?_ ?_
   ·apply Le.of<;>simp[qU,qG,qO,qH,qP,qK,qF,qI,qJ,qN,szR]<;>try omega
   ·simp
   rintro k hk KL3 hN3 hE3
   refine qM (cf:=cf0) laid mixed _ _ _ (by kernel_rfl) ?_
   by_cases hlt3:k<a.one.reads.length
   ·have hlt3':(k:Int)<a.one.reads.length:=by omega
    have hgf:=zPH a.one.reads k hlt3
    have htf:=zQP a.one.reads k hlt3
    have hpf:=zNp (fun r:XF=>r.path.length+10) a.one.reads (k+1)
    have hpf2:szR (a.one.reads.take (k+1))≤szR a.one.reads:=hpf
    obtain⟨f,hf⟩:∃f,f=a.one.reads[k]:=⟨_,rfl⟩
    rw[←hf]at hgf htf
    simp (disch:=omega) [zz,hlt3',hgf,qI]
    refine hN3 _ (k+1) ?_ (by omega) (by omega)
    apply Le.of<;>simp[qU,qG,qO,qH,qP,qK,qF,qI,qJ,qN,htf]<;>try omega
   ·have hlt3':¬(k:Int)<a.one.reads.length:=by omega
    have htk3:a.one.reads.take k=a.one.reads:=List.take_of_length_le (by omega)
    rw[htk3]
    simp (disch:=omega) [zz,hlt3']
    refine hE3 _ _ (by simp) ?_
    simp (disch:=omega) [zz]
    refine hN _ (i+1) ?_ (by omega) (by omega)
    apply Le.of<;>simp[qU,qG,qO,qH,qP,qK,qF,qI,qJ,qN,hta,hsz]<;>try omega
 ·have hlt':¬(i:Int)<l.length:=by omega
  have htk:l.take i=l:=List.take_of_length_le (by omega)
  rw[htk]
  simp (disch:=omega) [zz,hlt']
  refine hE _ _ (by simp) ?_
  by_cases h1:2500<zKx l
  ·have h1':(2500:Int)<zKx l:=by omega
   simp (disch:=omega) [zz,h1',h1,Tryz.f8,zKK]
  ·have h1':¬(2500:Int)<zKx l:=by omega
   have h2:((25:Int)<l.length)↔25<l.length:=by omega
   simp (disch:=omega) [zz,h1',h1,h2,Tryz.f8,zKK]
def kdI (n:Int):Dig:=UInt8.ofNat n.toNat::List.replicate 31 0
noncomputable def trO (o:zJk):zaP:=⟨kdI (o.key % 4),o.reads,o.outs.map zJF⟩
noncomputable def zML (o:zJk):TV:=.tup [(TrT,qK (trO o)),(.slice 36,zU o.outs)]
theorem zS2 (n:Int) (h0:0≤n) (h:n<256):AV.agg (.i .u8 n::List.replicate 31 (.i .u8 0))=KW (kdI n):=by
 have:((UInt8.ofNat n.toNat).toNat:Int)=n:=by
  rw[UInt8.toNat_ofNat'];omega
 simp only[KW,kdI,List.map_cons,this,List.map_replicate]
 rfl
abbrev zSI:Cfg:=⟨fun n=>n==1,fun n=>n==37||n==1000006||n==2000033⟩
set_option maxHeartbeats 16000000 in
theorem zom (o:zJk) (hk:0≤o.key) (hk2:o.key<256) (hol:o.outs.length≤1000000000) (hd:∀f∈o.outs,f.data.length≤1000000000) (ho:o.odd=0):PC Tryz.prog 14 [.av zSb (y3 o)] (zML o):=by
 refine q7.sub (R:=fun r H'=>r=zML o) ?_ (fun r H' hr _=>⟨[],HSub.of_sub (List.nil_sublist _),hr,rfl⟩)
 refine zov Tryz.func14 zSI fun imm0 w0=>?_
 have htm:o.key.tmod 4=o.key % 4:=Int.tmod_eq_emod_of_nonneg hk
 have hke:=zS2 (o.key % 4) (by omega) (by omega)
 simp only[List.reduceReplicate]at hke
 obtain⟨q,hq⟩:∃q,q=kdI (o.key % 4):=⟨_,rfl⟩
 rw[←hq]at hke
 have hoe:zU o.outs=.sl .no (o.outs.map jZ):=rfl
 simp (disch:=omega) [zz,y3]
 intro b
 simp (disch:=omega) [zz,hoe,wB,htm,hke]
 (repeat with_reducible refine om ?_)
 obtain⟨G,hG⟩:∃G:Nat→List AV,G=fun i=>((o.outs.take i).map zJF).map qN:=⟨_,rfl⟩
 have hG0:G 0=[]:=by rw[hG];rfl
 have hGn:G o.outs.length=(o.outs.map zJF).map qN:=by rw[hG];simp only[List.take_length]
 have hGl:∀i,i≤o.outs.length→(G i).length=i:=fun i h=>by rw[hG];simp;omega
 have hGs:∀i (h:i<o.outs.length),G (i+1)=G i++[qN (zJF o.outs[i])]:=fun i h=>by rw[hG];simp only[List.take_succ_eq_append_getElem h,List.map_append,List.map_cons,List.map_nil]
 refine AT.loop' (α:=Nat) (fun i=>St.of [(1,.av .ptr (.ptr b zSb [])),(2,.loc 2 []),(4,.loc 4 []),(5,.av (.slice 36) (.sl (.own 19 1) (o.outs.map jZ))),(21,.av (.slice 36) (.sl .no (o.outs.map jZ))),(22,.av (.int .i64) (.i .i64 o.outs.length)),(23,.av (.int .i64) (.i .i64 i))] [(2,(TrT,.agg [KW zc4,.sl .full [],.sl .full []])),(4,(TrT,.agg [KW q,qF o.reads,.sl (tkR 36 i) (G i)]))] (fun j=>if j=19 then 1 else if j=36 then i else 0) [(b,.var zSb (y3 o))])
  (fun i=>i≤o.outs.length) (fun i=>o.outs.length-i) 0 ?_ ?_ ?_
 ·apply Le.of<;>simp[qU,qG,qO,qH,qP,qK,qF,qI,qJ,qN,zCZ,tkR,y3,hoe,hG0]<;>try omega
 ·simp
 rintro i hi KL hN hE
 refine qM (cf:=zSI) laid mixed _ _ _ (by kernel_rfl) ?_
 by_cases hlt:i<o.outs.length
 ·have hlt':(i:Int)<o.outs.length:=by omega
  have hgf:=zK1 o.outs i hlt
  have hml:=hGl i hi
  have hmt:=hGs i hlt
  have hdl:=hd _ (List.getElem_mem hlt)
  obtain⟨f,hf⟩:∃f,f=o.outs[i]:=⟨_,rfl⟩
  rw[←hf]at hgf hmt hdl
  have hsum:=zNr f.data (by omega)
  have hms:qN (zJF f)=.agg [.s f.path,KW (sha f.data)]:=rfl
  rw[hms]at hmt
  cases i with
  | zero =>
   rw[hG0]at hmt
   simp only[List.nil_append,Nat.zero_add]at hmt
   simp (disch:=omega) [zz,hG0,hlt',hlt,hgf,jZ,tkR]
   refine jW.of [0,1,2,3,4,5,6,7,8,9,10,11] [0,1,2,3] (by kernel_rfl) ?_
   simp (disch:=omega) [zz]
   (repeat with_reducible refine om ?_)
   refine zcv hsum ?_
   simp (disch:=omega) [zz,wB]
   (repeat with_reducible refine om ?_)
   refine hN _ 1 ?_ (by omega) (by omega)
   apply Le.of<;>simp[qU,qG,qO,qH,qP,qK,qF,qI,qJ,qN,tkR,hmt]<;>try omega
   all_goals (intro j;by_cases hj:j=36<;>by_cases hj2:j=19<;>simp_all)
  | succ i =>
   have hlt2:(i:Int)+1<o.outs.length:=by omega
   have hge:(0:Int)≤(i:Int)+1:=by omega
   simp (disch:=omega) [zz,hlt2,hlt,hgf,jZ,tkR,hml,hge]
   refine jW.of [0,1,2,3,4,5,6,7,8,9,10,11] [0,1,2,3] (by kernel_rfl) ?_
   simp (disch:=omega) [zz,hml]
   (repeat with_reducible refine om ?_)
   refine zcv hsum ?_
   simp (disch:=omega) [zz,wB,hml]
   (repeat with_reducible refine om ?_)
   refine hN _ (i+2) ?_ (by omega) (by omega)
   apply Le.of<;>simp[qU,qG,qO,qH,qP,qK,qF,qI,qJ,qN,tkR,hmt]<;>try omega
   all_goals (intro j;by_cases hj:j=36<;>by_cases hj2:j=19<;>simp_all)
 ·have hie:i=o.outs.length:=by omega
  subst hie
  have hlt':¬(o.outs.length:Int)<o.outs.length:=by omega
  simp (disch:=omega) [zz,hlt']
  refine hE _ _ (by simp) ?_
  have hfin:zML o=.tup [(TrT,.agg [KW q,qF o.reads,.sl .no (G o.outs.length)]),(.slice 36,.sl .no (o.outs.map jZ))]:=by rw[hq,hGn];rfl
  have he1:AV.ers (G o.outs.length)=G o.outs.length:=by rw[hGn];simp[AV.ers_eq,Function.comp_def]
  have he2:AV.ers (o.outs.map jZ)=o.outs.map jZ:=by simp[AV.ers_eq,Function.comp_def,zKm]
  by_cases h0:0<o.outs.length
  ·have h0':¬o.outs.length=0:=by omega
   simp (disch:=omega) [zz,h0,ho,y3]
   simp (disch:=omega) [zz,Tryz.f14,hfin,he1,he2]
  ·have h0':o.outs.length=0:=by omega
   simp (disch:=omega) [zz,h0,h0',ho,y3]
   have he3:AV.ers (G 0)=G o.outs.length:=by rw[h0',hG0];rfl
   simp (disch:=omega) [zz,Tryz.f14,hfin,he3,he2]
def zJK (o:Option FV) (l:List (List UInt8)):Prop:=(o=none∧l=[])∨∃f,o=some f∧f.data=q5 l∧f.sure=f.data.length
def zMG (o:Option FV) (l:List (List UInt8)) (r:List UInt8):Prop:=zJK o l∨∃f,o=some f∧f.data=q5 l++frame r∧f.sure=(q5 l).length
def zKY (l:List (List UInt8)):Prop:=∀r∈l,r.length≤1048576
theorem zMf (a b:List (List UInt8)):q5 (a++b)=q5 a++q5 b:=by simp[q5]
theorem zMt (r:List UInt8):q5 [r]=frame r:=by simp[q5]
theorem zJK.data {o:Option FV} {l:List (List UInt8)} (h:zJK o l):zK6 o=q5 l:=by
 rcases h with⟨rfl,rfl⟩|⟨f,rfl,h,_⟩
 ·rfl
 ·exact h
theorem zJK.crash {o:Option FV} {l:List (List UInt8)} (h:zJK o l) (ps:List Int):zJK (zJy ps o).1 l∧(zJy ps o).2=ps:=by
 rcases h with⟨rfl,rfl⟩|⟨f,rfl,h1,h2⟩
 ·exact⟨.inl ⟨rfl,rfl⟩,rfl⟩
 ·simp only[zJy]
  rw[if_pos (by omega)]
  exact⟨.inr ⟨_,rfl,h1,rfl⟩,rfl⟩
structure Op (d:DV) (l:List (List UInt8)) (x:DV × Int × List (List UInt8)):Prop where
 e:x.2=(0,l)
 m:zJK x.1.m l
 n:x.1.n=none
 left:x.1.left=-1
theorem zLY {d:DV} (h:d.left=-1):(W2 d).2=0∧(W2 d).1.n=none∧(W2 d).1.m=d.m∧(W2 d).1.left=-1:=by
 unfold W2
 split
 ·rename_i hs
  unfold zJd
  cases hn:d.n with
  | none=>rw[hn]at hs;cases hs
  | some f=>simp[h,c7]
 ·rename_i hs
  refine⟨rfl,?_,rfl,h⟩
  cases hn:d.n with
  | none=>rfl
  | some f=>rw[hn]at hs;simp at hs
theorem zOr {d:DV} (h:d.left=-1) (hn:d.n=none) (x:List UInt8):zJn x d=(⟨some ⟨x,x.length⟩,none,-1⟩,0):=by
 simp[zJn,thn,kW,c8,zb1,h,hn,g5,zJC,c7,zKf]
theorem zMF {d:DV} (h:d.left=-1) {l:List (List UInt8)} (hl:zKY l) (hm:zJK d.m l):Op d l (openJ d):=by
 obtain⟨t1,t2,t3,t4⟩:=zLY h
 have hd:zK6 (W2 d).1.m=q5 l:=by rw[t3];exact hm.data
 unfold openJ
 rw[if_pos t1]
 unfold zKc
 simp only[hd,zMT hl,Nat.lt_irrefl,if_false]
 exact⟨rfl,by rw[t3];exact hm,t2,t4⟩
theorem zPI {l:List (List UInt8)} {r:List UInt8} (hl:zKY l) (hr:r.length≤1048576) (k:Nat) :
  ∃l',(l'=l∨l'=l++[r])∧zJc (q5 l++(frame r).take k)=l'∧q5 l'=(q5 l++(frame r).take k).take (q5 l').length:=by
 by_cases hk:k<12+r.length
 ·refine⟨l,.inl rfl,zO8 hl hr hk,?_⟩
  rw[List.take_append_of_le_length (Nat.le_refl _),List.take_of_length_le (Nat.le_refl _)]
 ·have e:(frame r).take k=frame r:=List.take_of_length_le (by rw[zJq];omega)
  have e2:q5 l++frame r=q5 (l++[r]):=by rw[zMf,zMt]
  refine⟨l++[r],.inr rfl,?_,?_⟩
  ·rw[e,e2]
   refine zMT fun x hx=>?_
   rcases List.mem_append.1 hx with hx|hx
   ·exact hl x hx
   ·rw[List.mem_singleton.1 hx];exact hr
  ·rw[e,e2,List.take_of_length_le (Nat.le_refl _)]
theorem zNc (ps:List Int) (d:DV):(zJh ps d).m=(zJy ps d.m).1:=rfl
theorem zPP {d:DV} (h:d.left=-1) {l:List (List UInt8)} {b:List UInt8} (hm:d.m=some ⟨b,b.length⟩) (hs:zJc b=l) (hf:q5 l=b.take (q5 l).length):Op d l (openJ d):=by
 obtain⟨t1,t2,t3,t4⟩:=zLY h
 have hd:zK6 (W2 d).1.m=b:=by rw[t3,hm];rfl
 unfold openJ
 rw[if_pos t1]
 unfold zKc
 simp only[hd,hs]
 split
 ·rw[zOr t4 t2,←hf]
  exact⟨rfl,.inr ⟨_,rfl,rfl,rfl⟩,rfl,rfl⟩
 ·rename_i hlt
  have:b.take (q5 l).length=b:=List.take_of_length_le (by omega)
  rw[this]at hf
  exact⟨rfl,by rw[t3,hm];exact .inr ⟨_,rfl,hf.symm,rfl⟩,t2,t4⟩
theorem zOB {d:DV} {l:List (List UInt8)} {r:List UInt8} (hl:zKY l) (hr:r.length≤1048576) (h:zMG d.m l r) (ps:List Int) :
  ∃l',(l'=l∨l'=l++[r])∧Op (zJh ps d) l' (openJ (zJh ps d)):=by
 rcases h with h|⟨f,hm,h1,h2⟩
 ·exact⟨l,.inl rfl,zMF rfl hl (by rw[zNc];exact(h.crash ps).1)⟩
 ·have hlen:f.data.length=f.sure+(frame r).length:=by rw[h1,h2,List.length_append]
  have hfl:=zJq r
  have hc:(zJh ps d).m=some ⟨f.data.take (f.sure+zK3 (ps.headD 0) (f.data.length-f.sure)),f.sure+zK3 (ps.headD 0) (f.data.length-f.sure)⟩:=by
   rw[zNc,hm];simp only[zJy];rw[if_neg (by omega)]
  have hp:=zNR (ps.headD 0) (f.data.length-f.sure)
  obtain⟨q,hq⟩:∃q,q=zK3 (ps.headD 0) (f.data.length-f.sure):=⟨_,rfl⟩
  rw[←hq]at hc hp
  have hb:f.data.take (f.sure+q)=q5 l++(frame r).take q:=by
   rw[h1,h2,List.take_append,List.take_of_length_le (by omega)];congr 2;omega
  have hbl:f.sure+q=(q5 l++(frame r).take q).length:=by
   rw[←hb,List.length_take];omega
  rw[hb,hbl]at hc
  obtain⟨l',g1,g2,g3⟩:=zPI hl hr q
  exact⟨l',g1,zPP rfl hc g2 g3⟩
theorem zKt {d:DV} {l:List (List UInt8)} (hl:zKY l) (h:zJK d.m l) (ps:List Int):Op (zJh ps d) l (openJ (zJh ps d)) :=
 zMF rfl hl (by rw[zNc];exact(h.crash ps).1)
theorem zNz {d:DV} {l:List (List UInt8)} {r:List UInt8} (h:zJK d.m l) (hr:r.length≤1048576) :
  ((addJ r ⟨d,false⟩).2=0∧(addJ r ⟨d,false⟩).1.br=false∧zJK (addJ r ⟨d,false⟩).1.d.m (l++[r])∧(addJ r ⟨d,false⟩).1.d.n=d.n∧(d.left=-1→(addJ r ⟨d,false⟩).1.d.left=-1))∨
  ((addJ r ⟨d,false⟩).2≠0∧(addJ r ⟨d,false⟩).1.br=true∧zMG (addJ r ⟨d,false⟩).1.d.m l r∧d.left≠-1):=by
 have hdat:(zKf (frame r) d.m).data=q5 l++frame r∧(zKf (frame r) d.m).sure=(q5 l).length:=by
  rcases h with⟨h1,rfl⟩|⟨f,h1,h2,h3⟩
  ·rw[h1];simp[zKf,q5]
  ·rw[h1];simp only[zKf];exact⟨by rw[h2],by rw[h3,h2]⟩
 unfold addJ
 rw[if_neg (by simp),if_neg (by omega)]
 simp only[thn,kW,g5,zJC,Bool.false_eq_true,if_false]
 by_cases hl:d.left=0
 ·right
  simp[hl,zMG,h]
 by_cases hl1:(c7 d).left=0
 ·right
  simp only[hl,if_false,if_true,c8,g5,Bool.false_eq_true,hl1]
  refine⟨by simp,by simp,.inr ⟨_,rfl,hdat.1,hdat.2⟩,?_⟩
  intro e;simp[c7,e]at hl1
 ·left
  simp only[hl,if_false,if_true,c8,g5,zJC,Bool.false_eq_true,hl1]
  refine⟨trivial,by simp,.inr ⟨_,rfl,?_,rfl⟩,rfl,?_⟩
  ·show (zKf (frame r) d.m).data=_
   rw[hdat.1,zMf,zMt]
  ·intro e;simp[c7,e]
theorem zM1 (r:List UInt8) {j:JV} (h:j.br=true):addJ r j=(j,19):=by unfold addJ;rw[if_pos h]
end Go.Proofs.YtcioeonlclpacaaGreatDoor
end
