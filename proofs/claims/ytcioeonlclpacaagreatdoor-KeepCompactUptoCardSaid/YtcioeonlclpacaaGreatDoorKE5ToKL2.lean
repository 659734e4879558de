/- A Keep is opened: the program. No condition beyond each theorem's own. -/
import Derived.Test.YtcioeonlclpacaaGreatDoorKE3ToKD2
import Derived.Test.YtcioeonlclpacaaGreatDoorKP4ToKB1
set_option linter.unusedSimpArgs false
set_option linter.unusedVariables false
set_option linter.unusedSectionVars false
section
set_option maxRecDepth 100000
namespace Go.Proofs.YtcioeonlclpacaaGreatDoor
open Go Go.Ab
open Classical
variable [Sel] [SelPow] [SelErr]
theorem zOa {mo:Nat} (l:List (List UInt8)) (x:MV) (i:Nat) (h:i<l.length) (h0:(j5 mo (l.take i) x).2=0) :
  ((K0 mo l[i] (j5 mo (l.take i) x).1).2=0→j5 mo (l.take (i+1)) x=K0 mo l[i] (j5 mo (l.take i) x).1)∧((K0 mo l[i] (j5 mo (l.take i) x).1).2≠0→(j5 mo l x).2=(K0 mo l[i] (j5 mo (l.take i) x).1).2):=by
 have e0:j5 mo (l.take i) x=((j5 mo (l.take i) x).1,0):=by rw[←h0]
 refine⟨fun hz=>?_,fun hz=>?_⟩
 ·rw[List.take_succ_eq_append_getElem h,zJw e0,j5,if_pos hz,j5,←hz]
 ·have e:l=l.take i++(l[i]::l.drop (i+1)):=by rw[←List.drop_eq_getElem_cons h,List.take_append_drop]
  conv=>lhs;rw[e]
  rw[zJw e0,j5,if_neg hz]
def zKD (B M:Nat) (x:DV × Option KV × Int) (r:TV) (H':q8):Prop :=
 (x.2.1=none∧x.2.2≠0∧r=.tup [(.ptr,.nilptr),(.int .i64,.i .i64 x.2.2)]∧zJN B M x.1 H')∨
 (∃k K,x.2.1=some k∧r=.tup [(.ptr,.ptr K KpT []),(.int .i64,.i .i64 0)]∧KpR K B M k H')
theorem zKD.bad {B M:Nat} {o:Bool} {x:DV × Option KV × Int} {r:TV} {H':q8} (h:x.2.1=none) (h2:x.2.2≠0) (hr:r=.tup [(.ptr,.nilptr),(.int .i64,.i .i64 x.2.2)]) (hH:H'=j4 B M o x.1):zKD B M x r H':=.inl ⟨h,h2,hr,by rw[hH];exact zJN.of⟩
theorem zPD (l:List (List UInt8)) (i:Nat) (h:i<l.length):wtR (l.take i)+(12+l[i].length)≤wtR l:=by
 have e:l=l.take i++(l[i]::l.drop (i+1)):=by rw[←List.drop_eq_getElem_cons h,List.take_append_drop]
 conv=>rhs;rw[e]
 simp only[wtR,List.map_append,List.sum_append,List.map_cons,List.sum_cons]
 omega
theorem zSD (K B M:Nat) (a:KA) (k:KV):HSub (j4 B M a.o k.j.d) (kpH K B M a k) :=
 ⟨_,zOR K B M a k,by
  unfold jH
  exact(List.sublist_append_left (j4 B M a.o k.j.d) _).cons _⟩
abbrev zTe:Cfg:=⟨fun n=>n==35,fun _=>false⟩
set_option maxHeartbeats 16000000 in
theorem zQH (B M:Nat) (hBM:M≠B) (o:Bool) (d:DV) (mo:Int) (N:Nat) (hN:N≤1000000000) (hd:g8 N d) :
  q7 Tryz.prog 12 [.av .ptr (.ptr B zJB []),.av (.int .i64) (.i .i64 mo)] (j4 B M o d) (zKD B M (zJv mo d)):=by
 refine q7.sub (R:=fun r H'=>∃H2,Ab.HSub H2 H'∧zKD B M (zJv mo d) r H2) ?_ (fun r H' ⟨H2,h2,h3⟩ _=>⟨H2,h2,h3⟩)
 have hz1:=hd.m
 have hz2:=hd.n
 obtain⟨hj1,hj2⟩:=hd.openJ
 refine zov Tryz.func12 zTe fun imm0 w0=>?_
 simp (disch:=omega) [zz]
 by_cases hmo:mo<1∨8<mo
 ·have ho:zJv mo d=(d,none,2):=by unfold zJv;rw[if_pos hmo]
  refine zcv (zQA mo hmo) ?_
  rw[ho]
  simp (disch:=omega) [zz,Tryz.f12]
  exact⟨_,HSub.refl _,zKD.bad rfl (by simp) rfl rfl⟩
 obtain⟨m,hm⟩:∃m:Nat,m=mo.toNat:=⟨_,rfl⟩
 have hmm:mo=(m:Int):=by omega
 have ho:zJv mo d=if (openJ d).2.1≠0 then((openJ d).1,none,(openJ d).2.1) else if (j5 m (openJ d).2.2 ⟨[],[]⟩).2≠0 then((openJ d).1,none,(j5 m (openJ d).2.2 ⟨[],[]⟩).2) else((openJ d).1,some ⟨⟨(openJ d).1,false⟩,m,(j5 m (openJ d).2.2 ⟨[],[]⟩).1⟩,0):=by unfold zJv;rw[if_neg hmo,←hm]
 obtain⟨X,hX⟩:∃X,X=zJv mo d:=⟨_,rfl⟩
 rw[←hX]at ho ⊢
 subst hmm
 have hm1:1≤m:=by omega
 have hm8:m≤8:=by omega
 refine qE [] (j4 B M o d) (List.Perm.refl _) rfl (by simp[qQ]) (by simp) (R:=fun r H'=>∃D E,r=.tup [(.ptr,.ptr D DbT []),(.int .i64,.i .i64 0)]∧H'=DbH D E m []) ?_ ?_
 ·simpa[TV.er,AV.er,q8.er_nil]using zR2 m hm1 hm8
 rintro r' H' ⟨D,E,rfl,rfl⟩ hnd
 refine⟨_,HSub.refl _,?_⟩
 simp (disch:=omega) [zz]
 refine qE (j4 B M o d) (DbH D E m []) List.perm_append_comm rfl (by simp[qQ]) (by simp) (R:=zJW B M (openJ d)) ?_ ?_
 ·rw[zKy]
  exact q7.args (zR7 B M hBM o d hd.ok (by omega) (by omega)) (by simp[qS,TV.er,AV.er,nmK])
 obtain⟨⟨d',e,l⟩,hj⟩:∃x,openJ d=x:=⟨_,rfl⟩
 rw[hj]at hj1 hj2 ho ⊢
 simp only at hj1 hj2 ho
 rintro r' H' hR hnd2
 rcases hR with⟨he,rfl,o1,rfl⟩|⟨he,J,hJB,hJM,rfl,o1,rfl⟩
 ·simp only at he
  refine⟨_,HSub.refl _,?_⟩
  rw[if_pos he]at ho
  simp (disch:=omega) [zz,he,Tryz.f12]
  exact⟨j4 B M o1 d',HSub.of_sub (List.sublist_append_left _ _),zKD.bad (by rw[ho]) (by rw[ho];exact he) (by rw[ho]) (by rw[ho])⟩
 simp only at he
 subst he
 refine⟨_,HSub.refl _,?_⟩
 simp (disch:=omega) [zz]
 refine qE [] (jH J B M o1 ⟨d',false⟩++DbH D E m []) (List.Perm.refl _) rfl (by simp[qQ]) (by simp) (R:=fun r H'=>∃S T,T≠S∧r=.av .ptr (.ptr S zKp [])∧H'=stB S T []) ?_ ?_
 ·simpa[TV.er,AV.er,q8.er_nil,stB,szB]using zRy
 rintro r' H' ⟨S,T,hTS,rfl,rfl⟩ hnd3
 refine⟨jH J B M o1 ⟨d',false⟩++(DbH D E m []++stB S T []),HSub.of_perm (by rw[←List.append_assoc];exact List.perm_append_comm (l₁:=stB S T []) (l₂:=jH J B M o1 ⟨d',false⟩++DbH D E m [])),?_⟩
 rw[if_neg (by simp)]at ho
 simp (disch:=omega) [zz]
 intro K hK0 hK1 hK2
 obtain⟨L,hL⟩:∃L:Nat→MV × Int,L=fun i=>j5 m (l.take i) ⟨[],[]⟩:=⟨_,rfl⟩
 have hL0:L 0=(⟨[],[]⟩,0):=by rw[hL];rfl
 have hLn:L l.length=j5 m l ⟨[],[]⟩:=by rw[hL];simp
 rw[←hLn]at ho
 refine AT.loop' (α:=Nat × KA) (fun x=>St.of [(10,.av .ptr (.ptr K KpT [])),(36,.av StS (.sl .no (zz6 l))),(37,.av (.int .i64) (.i .i64 l.length)),(38,.av (.int .i64) (.i .i64 x.1))] [] (fun _=>0) (kpH K B M x.2 ⟨⟨d',false⟩,m,(L x.1).1⟩))
  (fun x=>x.1≤l.length∧(L x.1).2=0∧zJL x.2 ⟨⟨d',false⟩,m,(L x.1).1⟩) (fun x=>l.length-x.1) (0,⟨J,D,E,S,T,o1,[]⟩) ?_ ?_ ?_
 ·apply Le.of<;>simp[qU,qG,qO,qH,qP,qK,qF,qI,qJ,qN,kpH,hL0,kpO]<;>try omega
 ·refine⟨by simp,by rw[hL0],⟨by simp,by rw[hL0];rfl⟩⟩
 rintro⟨i,a⟩ ⟨hi,hl0,hka⟩ KL hN hE
 simp only at hi hl0 hka hN
 refine qM (cf:=cf0) laid mixed _ _ _ (by kernel_rfl) ?_
 by_cases hlt:i<l.length
 ·have hlt':(i:Int)<l.length:=by omega
  have hgn:=zzr l i hlt
  have hlen:=(zPD l i hlt)
  have hll:=zRP l
  have hinv:=zJu.loads (mo:=m) hm1 zJu.nil (l:=l.take i) (y:=(L i).1) (by rw[←hl0,hL])
  have hsz:=zN7 (L i).1.bl
  have hle:=hinv.le
  have hst:=zOa (mo:=m) l ⟨[],[]⟩ i hlt (by rw[hL]at hl0;exact hl0)
  have hLi:∀i,j5 m (l.take i) ⟨[],[]⟩=L i:=fun i=>by rw[hL]
  rw[hLi,hLi,←hLn]at hst
  obtain⟨x,hx⟩:∃x,x=l[i]:=⟨_,rfl⟩
  rw[←hx]at hgn hlen hst
  have hld:=zQd K B M a ⟨⟨d',false⟩,m,(L i).1⟩ hka hm1 hm8 (by simp only;omega) x (by omega)
  simp (disch:=omega) [zz,hlt',hgn]
  refine qE (kpH K B M a ⟨⟨d',false⟩,m,(L i).1⟩) [] (by simp) rfl (by simp[qQ]) (by simp) (R:=fun r H'=>r=.av (.int .i64) (.i .i64 (K0 m x (L i).1).2)∧KpR K B M ⟨⟨d',false⟩,m,(K0 m x (L i).1).1⟩ H') ?_ ?_
  ·rw[u4 hka]
   simpa[TV.er,AV.er]using hld
  rintro r' H' ⟨rfl,a2,hk2,rfl⟩ _
  refine⟨_,by rw[List.append_nil];exact HSub.refl _,?_⟩
  by_cases hz:(K0 m x (L i).1).2=0
  ·have hst1:=hst.1 hz
   rw[←hst1]at hk2 hz ⊢
   simp (disch:=omega) [zz,hz]
   refine hN _ (i+1,a2) ?_ ⟨by simp only;omega,hz,hk2⟩ (by simp only;omega)
   apply Le.of<;>simp[qU,qG,qO,qH,qP,qK,qF,qI,qJ,qN,]<;>try omega
  ·have hst2:=hst.2 hz
   rw[if_pos (by rw[hst2];exact hz),hst2]at ho
   simp (disch:=omega) [zz,hz]
   refine hE _ _ (by simp) ?_
   simp (disch:=omega) [zz,Tryz.f12,u4 hk2]
   exact⟨_,zSD K B M a2 _,zKD.bad (o:=a2.o) (by rw[ho]) (by rw[ho];exact hz) (by rw[ho]) (by rw[ho])⟩
 ·have hie:i=l.length:=by omega
  subst hie
  have hlt':¬(l.length:Int)<l.length:=by omega
  rw[if_neg (by rw[hl0];simp)]at ho
  simp (disch:=omega) [zz,hlt']
  refine hE _ _ (by simp) ?_
  simp (disch:=omega) [zz,Tryz.f12,u4 hka]
  exact⟨_,HSub.refl _,.inr ⟨_,K,by rw[ho],rfl,KpR.of hka⟩⟩
def zJK (o:Option FV) (l:List (List UInt8)):Prop:=(o=none∧l=[])∨∃f,o=some f∧f.data=q5 l∧f.sure=f.data.length
def zMG (o:Option FV) (l:List (List UInt8)) (r:List UInt8):Prop:=zJK o l∨∃f,o=some f∧f.data=q5 l++frame r∧f.sure=(q5 l).length
def zKY (l:List (List UInt8)):Prop:=∀r∈l,r.length≤1048576
theorem zMf (a b:List (List UInt8)):q5 (a++b)=q5 a++q5 b:=by simp[q5]
theorem zMt (r:List UInt8):q5 [r]=frame r:=by simp[q5]
theorem zJK.data {o:Option FV} {l:List (List UInt8)} (h:zJK o l):zK6 o=q5 l:=by
 rcases h with⟨rfl,rfl⟩|⟨f,rfl,h,_⟩
 ·rfl
 ·exact h
theorem zJK.crash {o:Option FV} {l:List (List UInt8)} (h:zJK o l) (ps:List Int):zJK (zJy ps o).1 l∧(zJy ps o).2=ps:=by
 rcases h with⟨rfl,rfl⟩|⟨f,rfl,h1,h2⟩
 ·exact⟨.inl ⟨rfl,rfl⟩,rfl⟩
 ·simp only[zJy]
  rw[if_pos (by omega)]
  exact⟨.inr ⟨_,rfl,h1,rfl⟩,rfl⟩
structure Op (d:DV) (l:List (List UInt8)) (x:DV × Int × List (List UInt8)):Prop where
 e:x.2=(0,l)
 m:zJK x.1.m l
 n:x.1.n=none
 left:x.1.left=-1
theorem zLY {d:DV} (h:d.left=-1):(W2 d).2=0∧(W2 d).1.n=none∧(W2 d).1.m=d.m∧(W2 d).1.left=-1:=by
 unfold W2
 split
 ·rename_i hs
  unfold zJd
  cases hn:d.n with
  | none=>rw[hn]at hs;cases hs
  | some f=>simp[h,c7]
 ·rename_i hs
  refine⟨rfl,?_,rfl,h⟩
  cases hn:d.n with
  | none=>rfl
  | some f=>rw[hn]at hs;simp at hs
theorem zOr {d:DV} (h:d.left=-1) (hn:d.n=none) (x:List UInt8):zJn x d=(⟨some ⟨x,x.length⟩,none,-1⟩,0):=by
 simp[zJn,thn,kW,c8,zb1,h,hn,g5,zJC,c7,zKf]
theorem zMF {d:DV} (h:d.left=-1) {l:List (List UInt8)} (hl:zKY l) (hm:zJK d.m l):Op d l (openJ d):=by
 obtain⟨t1,t2,t3,t4⟩:=zLY h
 have hd:zK6 (W2 d).1.m=q5 l:=by rw[t3];exact hm.data
 unfold openJ
 rw[if_pos t1]
 unfold zKc
 simp only[hd,zMT hl,Nat.lt_irrefl,if_false]
 exact⟨rfl,by rw[t3];exact hm,t2,t4⟩
theorem zNc (ps:List Int) (d:DV):(zJh ps d).m=(zJy ps d.m).1:=rfl
theorem zKt {d:DV} {l:List (List UInt8)} (hl:zKY l) (h:zJK d.m l) (ps:List Int):Op (zJh ps d) l (openJ (zJh ps d)) :=
 zMF rfl hl (by rw[zNc];exact(h.crash ps).1)
theorem zNz {d:DV} {l:List (List UInt8)} {r:List UInt8} (h:zJK d.m l) (hr:r.length≤1048576) :
  ((addJ r ⟨d,false⟩).2=0∧(addJ r ⟨d,false⟩).1.br=false∧zJK (addJ r ⟨d,false⟩).1.d.m (l++[r])∧(addJ r ⟨d,false⟩).1.d.n=d.n∧(d.left=-1→(addJ r ⟨d,false⟩).1.d.left=-1))∨
  ((addJ r ⟨d,false⟩).2≠0∧(addJ r ⟨d,false⟩).1.br=true∧zMG (addJ r ⟨d,false⟩).1.d.m l r∧d.left≠-1):=by
 have hdat:(zKf (frame r) d.m).data=q5 l++frame r∧(zKf (frame r) d.m).sure=(q5 l).length:=by
  rcases h with⟨h1,rfl⟩|⟨f,h1,h2,h3⟩
  ·rw[h1];simp[zKf,q5]
  ·rw[h1];simp only[zKf];exact⟨by rw[h2],by rw[h3,h2]⟩
 unfold addJ
 rw[if_neg (by simp),if_neg (by omega)]
 simp only[thn,kW,g5,zJC,Bool.false_eq_true,if_false]
 by_cases hl:d.left=0
 ·right
  simp[hl,zMG,h]
 by_cases hl1:(c7 d).left=0
 ·right
  simp only[hl,if_false,if_true,c8,g5,Bool.false_eq_true,hl1]
  refine⟨by simp,by simp,.inr ⟨_,rfl,hdat.1,hdat.2⟩,?_⟩
  intro e;simp[c7,e]at hl1
 ·left
  simp only[hl,if_false,if_true,c8,g5,zJC,Bool.false_eq_true,hl1]
  refine⟨trivial,by simp,.inr ⟨_,rfl,?_,rfl⟩,rfl,?_⟩
  ·show (zKf (frame r) d.m).data=_
   rw[hdat.1,zMf,zMt]
  ·intro e;simp[c7,e]
theorem zWQ {d:DV} (hn:d.n=none) (x:List UInt8):((zJn x d).2=0∧∃q,(zJn x d).1=⟨some ⟨x,x.length⟩,none,q⟩∧(d.left=-1→q=-1))∨((zJn x d).2≠0∧(zJn x d).1.m=d.m∧d.left≠-1):=by
 by_cases e:d.left=-1
 ·left
  rw[zOr e hn]
  exact⟨rfl,-1,rfl,fun _=>rfl⟩
 obtain⟨m,n,c⟩:=d
 simp only at hn e
 subst hn
 simp only[zJn,thn,kW,c8,zb1,g5,zJC,c7,zKf,if_true]
 by_cases h0:c=0
 ·right;simp[h0]
 obtain⟨c1,hc1⟩:∃c1,c1=if 0<c then c-1 else c:=⟨_,rfl⟩
 simp only[h0,if_false,if_true,←hc1]
 by_cases h1:c1=0
 ·right;simp[h1,e]
 obtain⟨c2,hc2⟩:∃c2,c2=if 0<c1 then c1-1 else c1:=⟨_,rfl⟩
 simp only[h1,if_false,if_true,←hc2]
 by_cases h2:c2=0
 ·right;simp[h2,e]
 ·left;simp[h2,e]
theorem zVH {d:DV} {l l':List (List UInt8)} (h:zJK d.m l) (hl:zKY l') :
  ((swapJ l' ⟨d,false⟩).2=0∧(swapJ l' ⟨d,false⟩).1.br=false∧zJK (swapJ l' ⟨d,false⟩).1.d.m l'∧(swapJ l' ⟨d,false⟩).1.d.n=none∧zK6 (swapJ l' ⟨d,false⟩).1.d.m=q5 l'∧(d.left=-1→(swapJ l' ⟨d,false⟩).1.d.left=-1))∨
  ((swapJ l' ⟨d,false⟩).2≠0∧zJK (swapJ l' ⟨d,false⟩).1.d.m l∧d.left≠-1):=by
 have hany:(l'.any fun r=>decide (1048576<r.length))=false:=by
  rw[List.any_eq_false]
  intro r hr
  have:=hl r hr
  simp;omega
 unfold swapJ
 rw[if_neg (by simp),hany,if_neg (by simp)]
 by_cases ht:(W2 d).2=0
 ·obtain⟨t1,t2⟩:=zLT ht
  have hlt:d.left=-1→(W2 d).1.left=-1:=fun e=>(zLY e).2.2.2
  obtain⟨d1,hd1⟩:∃d1,d1=(W2 d).1:=⟨_,rfl⟩
  simp only[thn,ht,if_true,←hd1]
  rw[←hd1]at t1 t2 hlt
  rcases zWQ t1 (q5 l')with⟨a1,q,a2,a3⟩|⟨a1,a2,a3⟩
  ·left
   rw[a1,a2]
   exact⟨rfl,by simp,.inr ⟨_,rfl,rfl,rfl⟩,rfl,rfl,fun e=>a3 (hlt e)⟩
  ·right
   exact⟨a1,by rw[a2,t2];exact h,fun e=>a3 (hlt e)⟩
 ·right
  simp only[thn,ht,if_false]
  refine⟨ht,?_,fun e=>ht (zLY e).1⟩
  have:(W2 d).1.m=d.m:=by
   unfold W2;split
   ·unfold zJd;cases hn:d.n<;>simp only;split<;>rfl
   ·rfl
  rw[this];exact h
structure MEq (x y:MV):Prop where
 g:∀q,getD x.L q=getD y.L q
 f:∀d,x.bl.find? (fun p=>decide (p.1=d))=y.bl.find? (fun p=>decide (p.1=d))
theorem MEq.refl (x:MV):MEq x x:=⟨fun _=>rfl,fun _=>rfl⟩
theorem MEq.symm {x y:MV} (h:MEq x y):MEq y x:=⟨fun q=>(h.g q).symm,fun d=>(h.f d).symm⟩
theorem MEq.trans {x y z:MV} (h:MEq x y) (h2:MEq y z):MEq x z:=⟨fun q=>(h.g q).trans (h2.g q),fun d=>(h.f d).trans (h2.f d)⟩
theorem zLl {L:DbL} (h:OKD L) (q:Dig):q∈L.map Prod.fst↔getD L q≠[]:=by
 constructor
 ·exact fun hq=>(zOZ h hq).1
 ·intro hq
  exact Classical.byContradiction fun hn=>hq (zP3 hn)
theorem zPA {L L':DbL} (h:OKD L) (h':OKD L') (hg:∀q,getD L q=getD L' q):zKJ (L.map Prod.fst)=zKJ (L'.map Prod.fst):=by
 refine zPX (zKE _) (zKE _) ?_
 rw[List.perm_ext_iff_of_nodup h.1 h'.1]
 intro q
 rw[zLl h,zLl h',hg]
theorem MEq.recM {x y:MV} (h:MEq x y):Go.Proofs.YtcioeonlclpacaaGreatDoor.recM x.bl=Go.Proofs.YtcioeonlclpacaaGreatDoor.recM y.bl:=by
 funext m s
 unfold Go.Proofs.YtcioeonlclpacaaGreatDoor.recM
 rw[h.f]
theorem MEq.recs {x y:MV} (h:MEq x y) (hx:OKD x.L) (hy:OKD y.L):zO2 x=zO2 y:=by
 have hM:=h.recM
 have hT:recT x.bl=recT y.bl:=by funext t s;unfold recT;rw[hM]
 have hK:recK x=recK y:=by funext k s;unfold recK;rw[hT,h.g]
 unfold zO2
 rw[hK,zPA hx hy h.g]
theorem zNt {x y:MV} (h:MEq x y) (d:Dig):zJl d x.bl=zJl d y.bl:=by unfold zJl;rw[h.f]
theorem MEq.put {x y:MV} (h:MEq x y) (d:Dig) (s:List UInt8):MEq ⟨x.L,zJm d s x.bl⟩ ⟨y.L,zJm d s y.bl⟩:=by
 refine⟨h.g,fun e=>?_⟩
 simp only[zKg,zNt h,h.f]
theorem MEq.add {x y:MV} (h:MEq x y) (mo:Nat) (t:zaP):MEq ⟨zJj mo x.L t,x.bl⟩ ⟨zJj mo y.L t,y.bl⟩:=by
 refine⟨fun q=>?_,h.f⟩
 simp only[zKB,h.g]
theorem MEq.load {mo:Nat} {r:List UInt8} {x y x':MV} (h:MEq x y) (hl:K0 mo r x=(x',0)):∃y',K0 mo r y=(y',0)∧MEq x' y':=by
 unfold K0 at hl ⊢
 split at hl
 ·cases hl
 rename_i ht
 rw[if_neg ht]
 split at hl
 ·rename_i w s hs
  try (rw[hs];simp only)
  split at hl
  ·rename_i hw
   cases hl
   rw[if_pos hw]
   exact⟨_,rfl,h.put _ _⟩
  rename_i hw
  rw[if_neg hw]
  split at hl
  ·rename_i hw2
   rw[if_pos hw2]
   split at hl
   ·rename_i hr
    cases hl
    rw[if_pos hr]
    exact⟨_,rfl,h.add _ _⟩
   ·rename_i hr
    exact absurd (congrArg Prod.snd hl) hr
  ·cases hl
 ·cases hl
theorem MEq.loads {mo:Nat}:∀ {l:List (List UInt8)} {x y x':MV},MEq x y→j5 mo l x=(x',0)→∃y',j5 mo l y=(y',0)∧MEq x' y'
 | [],x,y,x',h,e=>by cases e;exact⟨y,rfl,h⟩
 | r::l,x,y,x',h,e=>by
  rw[j5]at e
  split at e
  ·rename_i h1
   obtain⟨y1,g1,g2⟩:=h.load (x':=(K0 mo r x).1) (by rw[←h1])
   obtain⟨y',g3,g4⟩:=g2.loads e
   refine⟨y',?_,g4⟩
   rw[j5,g1,if_pos rfl]
   exact g3
  ·rename_i h1;rw[e]at h1;exact absurd rfl h1
structure RL (mo:Nat) (x:MV) (ts:List zaP) (s:zKv) (y:MV):Prop where
 ld:j5 mo s.2 ⟨[],[]⟩=(y,0)
 L:y.L=zRd mo ts
 f:∀d,y.bl.find? (fun p=>decide (p.1=d))=if d∈s.1 then x.bl.find? (fun p=>decide (p.1=d)) else none
 is:∀d∈s.1,zJl d x.bl=true
theorem zKS {mo:Nat} {r:List UInt8} {x y:MV} (h:K0 mo r x=(y,0)):j5 mo [r] x=(y,0):=by
 rw[j5,h,if_pos rfl];rfl
theorem zQ5 {bl:BlL} {p:Dig × List UInt8} (h:p∈bl):wtB p.2≤zLL bl:=by
 have:=zPc ((List.singleton_sublist.2 h).map fun p:Dig × List UInt8=>wtB p.2)
 simpa[zLL]using this
theorem zOL (s:List UInt8):s.length≤(zJf s).length:=by
 simp only[zJf,zyI,List.length_append,List.length_cons,blobW];omega
theorem RL.recM {mo N:Nat} {x:MV} (hx:zJu mo N x) (hN:N<1000000000) {ts:List zaP} {s:zKv} {y:MV} (h:RL mo x ts s y) (m:Made):∃y',RL mo x ts (Go.Proofs.YtcioeonlclpacaaGreatDoor.recM x.bl m s) y':=by
 unfold Go.Proofs.YtcioeonlclpacaaGreatDoor.recM
 cases hf:x.bl.find? (fun p=>decide (p.1=m.sum))with
 | none=>exact⟨y,h⟩
 | some p =>
  simp only
  by_cases hm:m.sum∈s.1
  ·rw[if_pos hm];exact⟨y,h⟩
  rw[if_neg hm]
  obtain⟨h1,h2⟩:=zKz hf
  have hsm:m.sum=sha p.2:=by rw[←h2];exact hx.sh p h1
  have hlen:p.2.length<1000000000:=by
   have:=zQ5 h1
   have:=zOL p.2
   have:=hx.le
   unfold wtB at *
   omega
  refine⟨⟨y.L,zJm (sha p.2) p.2 y.bl⟩,?_,h.L,?_,?_⟩
  ·simp only
   rw[zJw h.ld]
   exact zKS (zLs hlen)
  ·intro d
   simp only[zKg,zJl,h.f,List.mem_append,List.mem_singleton]
   rw[←hsm]
   by_cases hd:d∈s.1
   ·have hi:=h.is d hd
    unfold zJl at hi
    simp[hd,hi]
   ·by_cases hdm:d=m.sum
    ·subst hdm
     rw[if_neg hd,if_neg (by simp),if_pos rfl,if_pos (.inr rfl),hf,←h2]
    ·have:¬m.sum=d:=fun e=>hdm e.symm
     simp[hd,hdm,this]
  ·intro d hd
   rcases List.mem_append.1 hd with hd|hd
   ·exact h.is d hd
   ·rw[List.mem_singleton.1 hd];simp[zJl,hf]
theorem RL.recMs {mo N:Nat} {x:MV} (hx:zJu mo N x) (hN:N<1000000000) {ts:List zaP}:∀(l:List Made) {s:zKv} {y:MV},RL mo x ts s y→∃y',RL mo x ts (l.foldl (fun s m=>Go.Proofs.YtcioeonlclpacaaGreatDoor.recM x.bl m s) s) y'
 | [],_,y,h=>⟨y,h⟩
 | m::l,_,y,h=>by
  obtain⟨y1,h1⟩:=h.recM hx hN m
  exact RL.recMs hx hN l h1
theorem RL.recT {mo N:Nat} {x:MV} (hx:zJu mo N x) (hN:N<1000000000) {ts:List zaP} {s:zKv} {y:MV} (h:RL mo x ts s y) {t:zaP} (ht:TrG t):∃y',RL mo x (ts++[t]) (Go.Proofs.YtcioeonlclpacaaGreatDoor.recT x.bl t s) y':=by
 obtain⟨y1,h1⟩:=RL.recMs hx hN t.outs h
 unfold Go.Proofs.YtcioeonlclpacaaGreatDoor.recT
 refine⟨⟨zJj mo y1.L t,y1.bl⟩,?_,?_,h1.f,h1.is⟩
 ·simp only
  rw[zJw h1.ld]
  exact zKS (zLa ht.1 ht.2)
 ·simp only
  rw[zQw,h1.L]
theorem RL.recTs {mo N:Nat} {x:MV} (hx:zJu mo N x) (hN:N<1000000000):∀(l:List zaP) {ts:List zaP} {s:zKv} {y:MV},(∀t∈l,TrG t)→RL mo x ts s y→∃y',RL mo x (ts++l) (l.foldl (fun s t=>Go.Proofs.YtcioeonlclpacaaGreatDoor.recT x.bl t s) s) y'
 | [],ts,_,y,_,h=>⟨y,by simpa using h⟩
 | t::l,ts,_,y,hl,h=>by
  obtain⟨y1,h1⟩:=h.recT hx hN (hl t (by simp))
  obtain⟨y2,h2⟩:=RL.recTs hx hN l (fun t ht=>hl t (List.mem_cons_of_mem _ ht)) h1
  exact⟨y2,by simpa using h2⟩
theorem zVs {mo N:Nat} {x:MV} (hx:zJu mo N x) {k:Dig} {t:zaP} (h:t∈getD x.L k):TrG t∧t.key=k:=by
 have hk:k∈x.L.map Prod.fst:=(zLl hx.ok k).2 (List.ne_nil_of_mem h)
 obtain⟨p,hp,hp2⟩:=zNN h
 exact⟨(hx.tr p hp).2 t hp2,(zOZ hx.ok hk).2 t h⟩
theorem RL.recKs {mo N:Nat} {x:MV} (hx:zJu mo N x) (hN:N<1000000000):∀(l:List Dig) {ts:List zaP} {s:zKv} {y:MV},RL mo x ts s y→∃y',RL mo x (ts++l.flatMap fun k=>(getD x.L k).reverse) (l.foldl (fun s k=>recK x k s) s) y'
 | [],ts,_,y,h=>⟨y,by simpa using h⟩
 | k::l,ts,_,y,h=>by
  obtain⟨y1,h1⟩:=RL.recTs hx hN (getD x.L k).reverse (fun t ht=>(zVs hx (List.mem_reverse.1 ht)).1) h
  obtain⟨y2,h2⟩:=RL.recKs hx hN l h1
  exact⟨y2,by rw[List.flatMap_cons,←List.append_assoc];exact h2⟩
theorem zVx {mo N:Nat} {x:MV} (hx:zJu mo N x) (hN:N<1000000000):∃y,j5 mo (zO2 x).2 ⟨[],[]⟩=(y,0)∧MEq y (zSg x)∧∀d∈(zO2 x).1,zJl d x.bl=true:=by
 obtain⟨y,h⟩:=RL.recKs (ts:=[]) (s:=([],[])) (y:=⟨[],[]⟩) hx hN (zKJ (x.L.map Prod.fst)) ⟨rfl,rfl,by simp,by simp⟩
 refine⟨y,h.ld,⟨fun q=>?_,fun d=>?_⟩,h.is⟩
 ·rw[h.L,zWH]
  have hnd:=zLR hx.ok.1
  have hfl:=zVj (k:=q) (f:=fun k=>(getD x.L k).reverse) hnd (fun k _ t ht=>(zVs hx (List.mem_reverse.1 ht)).2)
  have e:ofK q ([]++(zKJ (x.L.map Prod.fst)).flatMap fun k=>(getD x.L k).reverse)=(getD x.L q).reverse:=by
   unfold ofK
   rw[List.nil_append]
   have:∀t∈(zKJ (x.L.map Prod.fst)).flatMap (fun k=>(getD x.L k).reverse),(decide (t.key=q∧zCW t=0))=decide (t.key=q):=by
    intro t ht
    obtain⟨k,_,ht⟩:=List.mem_flatMap.1 ht
    simp[(zVs hx (List.mem_reverse.1 ht)).1.2]
   rw[List.filter_congr this,hfl]
   split
   ·rfl
   ·rename_i hk
    rw[zP3 (fun hq=>hk (zNX.2 hq))];rfl
  rw[e]
  exact zV4 _ (hx.rn q) (hx.row q)
 ·have hf:=h.f d
  rw[hf]
  show _=(x.bl.filter fun p=>decide (p.1∈(zO2 x).1)).find? _
  rw[List.find?_filter]
  split
  ·rename_i hd
   refine congrArg (fun f=>List.find? f x.bl) ?_
   funext p
   by_cases hp:p.1=d
   ·have:p.1∈(zO2 x).1:=by rw[hp];exact hd
    simp[hp,this,hd]
    exact hp▸this
   ·simp[hp]
  ·rename_i hd
   symm
   rw[List.find?_eq_none]
   intro p _
   simp only[Bool.and_eq_true,decide_eq_true_eq,not_and]
   intro h1 h2
   exact hd (h2▸h1)
def zJE (l:List U1) (bl:BlL):BlL:=l.foldl (fun b f=>zJm (sha f.data) f.data b) bl
def nwB:List U1→BlL→List (List UInt8)
 | [],_=>[]
 | f::r,bl=>if zJl (sha f.data) bl then nwB r bl else zJf f.data::nwB r (zJm (sha f.data) f.data bl)
theorem zNV {d:Dig} {s:List UInt8} {bl:BlL} (h:zJl d bl=true):zJm d s bl=bl:=by
 unfold zJl at h
 unfold zJm
 cases hf:bl.find? (fun p=>decide (p.1=d))with
 | some p=>rfl
 | none=>rw[hf]at h;cases h
theorem JV.eta {j:JV} (h:j.br=false):j=⟨j.d,false⟩:=by cases j;simp only at h;subst h;rfl
theorem zKa:∀ {l:List U1} {d:DV} {bl:BlL} {recs:List (List UInt8)},zJK d.m recs→(∀f∈l,(zJf f.data).length≤1048576)→
  ((q6 l ⟨d,false⟩ bl).2.2=0∧(q6 l ⟨d,false⟩ bl).2.1=zJE l bl∧(q6 l ⟨d,false⟩ bl).1.br=false∧zJK (q6 l ⟨d,false⟩ bl).1.d.m (recs++nwB l bl)∧(d.left=-1→(q6 l ⟨d,false⟩ bl).1.d.left=-1))∨
  ((q6 l ⟨d,false⟩ bl).2.2≠0∧(q6 l ⟨d,false⟩ bl).1.br=true∧d.left≠-1∧∃p r q,nwB l bl=p++r::q∧zMG (q6 l ⟨d,false⟩ bl).1.d.m (recs++p) r)
 | [],d,bl,recs,h,_=>.inl ⟨rfl,rfl,rfl,by simpa[nwB,q6]using h,fun e=>e⟩
 | f::l,d,bl,recs,h,hs=>by
  have hs2:∀f∈l,(zJf f.data).length≤1048576:=fun f hf=>hs f (List.mem_cons_of_mem _ hf)
  by_cases hh:zJl (sha f.data) bl=true
  ·have ih:=zKa (l:=l) (bl:=bl) h hs2
   have e1:q6 (f::l) ⟨d,false⟩ bl=q6 l ⟨d,false⟩ bl:=by rw[q6,if_pos hh]
   have e2:nwB (f::l) bl=nwB l bl:=by rw[nwB,if_pos hh]
   have e3:zJE (f::l) bl=zJE l bl:=by simp only[zJE,List.foldl_cons,zNV hh]
   rw[e1,e2,e3]
   exact ih
  have e2:nwB (f::l) bl=zJf f.data::nwB l (zJm (sha f.data) f.data bl):=by rw[nwB,if_neg hh]
  have e3:zJE (f::l) bl=zJE l (zJm (sha f.data) f.data bl):=by simp only[zJE,List.foldl_cons]
  rcases zNz (r:=zJf f.data) h (hs f (by simp))with⟨a1,a2,a3,a4,a5⟩|⟨a1,a2,a3,a4⟩
  ·have e1:q6 (f::l) ⟨d,false⟩ bl=q6 l ⟨(addJ (zJf f.data) ⟨d,false⟩).1.d,false⟩ (zJm (sha f.data) f.data bl):=by
    rw[q6,if_neg hh,if_pos a1,←JV.eta a2]
   rw[e1,e2,e3]
   rcases zKa (l:=l) (bl:=zJm (sha f.data) f.data bl) a3 hs2 with⟨b1,b2,b3,b4,b5⟩|⟨b1,b2,b3,p,r,q,b4,b5⟩
   ·exact .inl ⟨b1,b2,b3,by simpa using b4,fun e=>b5 (a5 e)⟩
   ·exact .inr ⟨b1,b2,fun e=>b3 (a5 e),zJf f.data::p,r,q,by rw[b4];rfl,by simpa using b5⟩
  ·have e1:q6 (f::l) ⟨d,false⟩ bl=((addJ (zJf f.data) ⟨d,false⟩).1,bl,(addJ (zJf f.data) ⟨d,false⟩).2):=by
    rw[q6,if_neg hh,if_neg a1]
   rw[e1,e2]
   exact .inr ⟨a1,a2,a4,[],zJf f.data,_,rfl,by simpa using a3⟩
noncomputable def zLc (t:zaP) (outs:List U1) (bl:BlL):List (List UInt8):=nwB outs bl++[zJG t]
structure zOF (t:zaP) (outs:List U1):Prop where
 g:TrG t
 o:t.outs=outs.map zJF
 b:∀f∈outs,(zJf f.data).length≤1048576
 t:(zJG t).length≤1048576
theorem zL7 {k:KV} {recs:List (List UInt8)} (hb:k.j.br=false) (h:zJK k.j.d.m recs) {t:zaP} {outs:List U1} (hf:zOF t outs) :
  ((g6 t outs k).2=0∧(g6 t outs k).1.j.br=false∧zJK (g6 t outs k).1.j.d.m (recs++zLc t outs k.M.bl)∧(g6 t outs k).1.M=⟨zJj k.mo k.M.L t,zJE outs k.M.bl⟩∧(k.j.d.left=-1→(g6 t outs k).1.j.d.left=-1))∨
  ((g6 t outs k).2≠0∧(g6 t outs k).1.j.br=true∧k.j.d.left≠-1∧∃p r q,zLc t outs k.M.bl=p++r::q∧zMG (g6 t outs k).1.j.d.m (recs++p) r):=by
 obtain⟨⟨d,br⟩,mo,M⟩:=k
 simp only at hb h
 subst hb
 unfold g6
 simp only
 rw[if_neg (by rw[hf.g.2];decide),if_neg (by rw[hf.o];simp)]
 unfold zLc
 rcases zKa (l:=outs) (bl:=M.bl) h hf.b with⟨b1,b2,b3,b4,b5⟩|⟨b1,b2,b3,p,r,q,b4,b5⟩
 ·rw[if_neg (by rw[b1];decide)]
  obtain⟨j,hj⟩:∃j,j=(q6 outs ⟨d,false⟩ M.bl).1:=⟨_,rfl⟩
  rw[←hj]at b3 b4 b5 ⊢
  rw[b2,JV.eta b3]
  rcases zNz (r:=zJG t) b4 hf.t with⟨a1,a2,a3,a4,a5⟩|⟨a1,a2,a3,a4⟩
  ·rw[if_neg (by rw[a1];decide)]
   exact .inl ⟨rfl,a2,by simpa using a3,rfl,fun e=>a5 (b5 e)⟩
  ·rw[if_pos a1]
   exact .inr ⟨a1,a2,fun e=>a4 (b5 e),nwB outs M.bl,zJG t,[],by simp,a3⟩
 ·rw[if_pos b1]
  exact .inr ⟨b1,b2,b3,p,r,q++[zJG t],by rw[b4];simp,b5⟩
theorem zLn {k:KV} {t:zaP} {outs:List U1}:(g6 t outs k).1.mo=k.mo:=by
 unfold g6
 split
 ·rfl
 split
 ·rfl
 split
 ·rfl
 split<;>rfl
theorem zKN:∀ {l:List U1} {bl:BlL} {r:List UInt8},r∈nwB l bl→∃f∈l,r=zJf f.data
 | [],_,_,h=>by cases h
 | f::l,bl,r,h=>by
  rw[nwB]at h
  split at h
  ·obtain⟨g,h1,h2⟩:=zKN h
   exact⟨g,List.mem_cons_of_mem _ h1,h2⟩
  ·rcases List.mem_cons.1 h with rfl|h
   ·exact⟨f,by simp,rfl⟩
   ·obtain⟨g,h1,h2⟩:=zKN h
    exact⟨g,List.mem_cons_of_mem _ h1,h2⟩
theorem zMm {s:List UInt8} (h:(zJf s).length≤1048576):s.length<1000000000:=by have:=zOL s;omega
theorem zKV {mo:Nat}:∀ {l:List U1} {x:MV},(∀f∈l,(zJf f.data).length≤1048576)→j5 mo (nwB l x.bl) x=(⟨x.L,zJE l x.bl⟩,0)
 | [],x,_=>rfl
 | f::l,x,h=>by
  have h2:∀f∈l,(zJf f.data).length≤1048576:=fun f hf=>h f (List.mem_cons_of_mem _ hf)
  rw[nwB]
  split
  ·rename_i hh
   have e3:zJE (f::l) x.bl=zJE l x.bl:=by simp only[zJE,List.foldl_cons,zNV hh]
   rw[e3]
   exact zKV h2
  ·rw[j5,zLs (zMm (h f (by simp))),if_pos rfl]
   exact zKV (x:=⟨x.L,zJm (sha f.data) f.data x.bl⟩) h2
theorem zM5 {mo:Nat} {t:zaP} {outs:List U1} (hf:zOF t outs) (x:MV):j5 mo (zLc t outs x.bl) x=(⟨zJj mo x.L t,zJE outs x.bl⟩,0):=by
 unfold zLc
 rw[zJw (zKV hf.b)]
 exact zKS (zLa hf.g.1 hf.g.2)
theorem MEq.nwB {x y:MV} (h:MEq x y):∀(l:List U1),Go.Proofs.YtcioeonlclpacaaGreatDoor.nwB l x.bl=Go.Proofs.YtcioeonlclpacaaGreatDoor.nwB l y.bl:=by
 intro l
 induction l generalizing x y with
 | nil=>rfl
 | cons f l ih =>
  simp only[Go.Proofs.YtcioeonlclpacaaGreatDoor.nwB,zNt h]
  split
  ·exact ih h
  ·rw[ih (h.put (sha f.data) f.data)]
theorem zN0:∀ {l:List U1} {bl:BlL} {d:Dig},zJl d bl=true→zJl d (zJE l bl)=true
 | [],_,_,h=>h
 | f::l,bl,d,h=>by
  refine zN0 (l:=l) ?_
  have h2:=h
  unfold zJl at h ⊢
  rw[zKg,if_pos h2]
  exact h
theorem zS0 (s:List UInt8) (bl:BlL) (d:Dig):zJl d (zJm d s bl)=true:=by
 unfold zJl
 rw[zKg]
 split
 ·rename_i h;exact h
 ·simp
theorem zMY:∀ {l:List U1} {bl:BlL} {f:U1},f∈l→zJl (sha f.data) (zJE l bl)=true
 | g::l,bl,f,h=>by
  rcases List.mem_cons.1 h with rfl|h
  ·exact zN0 (l:=l) (zS0 _ _ _)
  ·exact zMY (l:=l) h
theorem zL3 {t:zaP} {outs:List U1} (hf:zOF t outs) {bl:BlL}:zKY (zLc t outs bl):=by
 intro r hr
 rcases List.mem_append.1 hr with hr|hr
 ·obtain⟨f,h1,rfl⟩:=zKN hr
  exact hf.b f h1
 ·rw[List.mem_singleton.1 hr];exact hf.t
theorem zN1 {a b:List (List UInt8)} (ha:zKY a) (hb:zKY b):zKY (a++b):=fun r hr=>by
 rcases List.mem_append.1 hr with hr|hr
 ·exact ha r hr
 ·exact hb r hr
end Go.Proofs.YtcioeonlclpacaaGreatDoor
end
