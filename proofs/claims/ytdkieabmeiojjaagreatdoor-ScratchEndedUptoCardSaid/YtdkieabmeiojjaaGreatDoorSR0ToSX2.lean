/- A ring of actions: scratch. No condition. -/
import Derived.Test.YtdkieabmeiojjaaGreatDoorSD0ToRG0
set_option linter.unusedSimpArgs false
set_option linter.unusedVariables false
set_option linter.unusedSectionVars false
set_option maxHeartbeats 64000000
set_option maxRecDepth 100000
namespace Go.Proofs.YtdkieabmeiojjaaGreatDoor
open Go Go.Ab
open Classical
section
variable [Sel] [SelPow] [SelMax]
theorem zdU (i:Nat):∀l:List (Nat × Txt),wQ (.i .i64 (i:Int)) (wtE l)=(l.find? fun p=>decide (p.1=i)).map fun p=>.s p.2
 | []=>rfl
 | p::l=>by
  have ih:=zdU i l
  simp only[wtE,List.map_cons,wQ,WV,List.find?_cons]at ih |-
  by_cases h:p.1=i
  ·simp[h]
  ·simp[h,ih]
theorem za2 {w:zV} (hw:zd8 w) {x:BdV} (hx:KN (qW w) w.acts.length [] x) {i:Nat} (hi:i∈x.ov.map Prod.fst) (hl:jL (qW w) i=none) :
  ∀k,let j:=itF (uA (qW w)) k i;j∈x.ov.map Prod.fst/\jL (qW w) j=none
 | 0=>⟨hi,hl⟩
 | k+1=>by
  obtain⟨h1,h2⟩:=za2 hw hx hi hl k
  simp only[cX]
  generalize itF (uA (qW w)) k i=j at h1 h2
  obtain⟨p,hp,rfl⟩:=List.mem_map.1 h1
  obtain⟨_,m,h3,h4⟩:=hx.st p hp h2
  have he:=(zcU hw (hx.fin p hp).1).1
  have hm:uA (qW w) p.1=m:=by unfold uA;rw[h3];rfl
  rw[hm]
  exact⟨by simpa using h4,zi5 he h2 h3⟩
theorem zin {w:zV} {x:BdV} (hx:KN (qW w) w.acts.length [] x) {j:Nat} (hj:j∈x.ov.map Prod.fst) (hl:jL (qW w) j=none) :
  x.wt.find? (fun q=>decide (q.1=j))=some (j,(xF (qW w) j).asks)/\wJ w.acts (xF (qW w) j).asks=some (uA (qW w) j):=by
 obtain⟨p,hp,rfl⟩:=List.mem_map.1 hj
 obtain⟨h1,m,h3,_⟩:=hx.st p hp hl
 refine⟨h1,?_⟩
 unfold uA
 rw[h3]
 exact h3
theorem zmX (x:Nat):∀l:List Nat,YM x l<=x/\∀y∈l,YM x l<=y:=by
 intro l
 induction l generalizing x with
 | nil=>simp[YM]
 | cons a l ih =>
  have h:=ih (Nat.min x a)
  have e:YM x (a::l)=YM (Nat.min x a) l:=rfl
  have h1:Nat.min x a<=x:=Nat.min_le_left x a
  have h2:Nat.min x a<=a:=Nat.min_le_right x a
  rw[e]
  refine⟨by omega,fun y hy=>?_⟩
  rcases List.mem_cons.1 hy with rfl|hy
  ·omega
  ·exact h.2 y hy
theorem zkq (x:Nat):∀l:List Nat,YM x l∈x::l:=by
 intro l
 induction l generalizing x with
 | nil=>simp[YM]
 | cons a l ih =>
  have h:=ih (Nat.min x a)
  have e:YM x (a::l)=YM (Nat.min x a) l:=rfl
  rw[e]
  rcases List.mem_cons.1 h with h|h
  ·rw[h]
   have:Nat.min x a=x\/Nat.min x a=a:=by
    rcases Nat.le_total x a with g|g
    ·exact .inl (Nat.min_eq_left g)
    ·exact .inr (Nat.min_eq_right g)
   rcases this with g|g<;>rw[g]<;>simp
  ·simp[h]
noncomputable def zaR (w:zV) (i:Int):List Nat :=
 if X0 w=0/\0<=i/\i<w.acts.length then if (kS (qW w) i.toNat).kind=3 then zd5 (uA (qW w)) i.toNat else [] else []
abbrev zpD:Cfg:=⟨fun _=>false,fun _=>false⟩
theorem zmw (w:zV) (hc:WkC w) (i:Int):PC Tryz.prog 13 [.av CZ (yV w),.av (.int .i64) (.i .i64 i)] (.av (.slice 3) (jX (zaR w i))):=by
 refine q7.sub (R:=fun r H'=>r=.av (.slice 3) (jX (zaR w i))) ?_ (fun r H' hr _=>⟨[],HSub.of_sub (List.nil_sublist _),hr,rfl⟩)
 obtain⟨V,hV⟩:∃V,V=zaR w i:=⟨_,rfl⟩
 rw[<-hV]
 unfold zaR at hV
 have hch:=zbJ w hc
 have hew:=cS w
 have hbg:=zbT w
 obtain⟨W,hW⟩:∃W,W=yV w:=⟨_,rfl⟩
 have hWE:W=.agg [qL w.files,.sl .no (w.acts.map wW),.sl .no (strs w.wants),.b w.keep]:=hW
 rw[<-hW]at hch hew hbg
 rw[<-hW]
 refine zov Tryz.func13 zpD fun imm0 w0=>?_
 simp (disch:=omega) [zz]
 refine qO hch rfl rfl (by simp) (by simp[qR,TV.er,hew]) ?_
 by_cases h1:X0 w=0
 rotate_left
 ·rw[if_neg (by simp[h1])]at hV
  subst hV
  simp (disch:=omega) [zz,h1,Tryz.f13,jX]
 by_cases h2:i<0
 ·rw[if_neg (by omega)]at hV
  subst hV
  simp (disch:=omega) [zz,h1,h2,Tryz.f13,jX]
 by_cases h3:(w.acts.length:Int)<=i
 ·rw[if_neg (by omega)]at hV
  subst hV
  simp (disch:=omega) [zz,h1,h2,hWE,h3,Tryz.f13,jX]
 rw[if_pos (by omega)]at hV
 obtain⟨n,rfl⟩:∃n:Nat,i=n:=⟨i.toNat,by omega⟩
 have hn:n<w.acts.length:=by omega
 have hw:=hc.ok h1
 rw[Int.toNat_natCast]at hV
 simp (disch:=omega) [zz,h1,h2,hWE,h3]
 refine qD (R:=fun r H'=>∃B O Y T,r=.av .ptr (.ptr B BdT [])/\H'=bdH B O Y T w [] ⟨[],[]⟩) [] [] (by simp) rfl (by simp[qE]) (by simp) ?_ ?_
 ·rw[<-hWE]
  simpa[TV.er,hew,q8.er_nil]using hbg
 rintro r H ⟨B,O,Y,T,rfl,rfl⟩ _
 refine⟨bdH B O Y T w [] ⟨[],[]⟩,by simpa using HSub.refl _,?_⟩
 have hHe:=YD B O Y T w [] ⟨[],[]⟩
 have hbr:=zeD B O Y T w hw n ⟨[],[]⟩ (KN.none _ _) hn
 unfold BrC at hbr
 have heo:=Q5 (kS (qW w) n)
 simp (disch:=omega) [zz]
 refine qD (bdH B O Y T w [] ⟨[],[]⟩) [] (by simp) rfl (by simp[qE]) (by simp) (by
  rw[hHe]
  exact q7.args hbr (by simp[qR,TV.er,AV.er])) ?_
 rintro r H ⟨x,rfl,hx,_,hxi,_,rfl⟩ hnd
 refine⟨bdH B O Y T w [] x,by simpa using HSub.refl _,?_⟩
 have hne:=zha (by simpa using hnd)
 by_cases hk:(kS (qW w) n).kind=3
 rotate_left
 ·rw[if_neg hk]at hV
  subst hV
  simp (disch:=omega) [zz,z7,hk,Tryz.f13,jX]
 rw[if_pos hk]at hV
 have hl:jL (qW w) n=none:=by
  rcases D1 (qW w) n with⟨_,h⟩|⟨_,h|h⟩
  ·exact h
  ·omega
  ·omega
 have hch2:∀k,itF (uA (qW w)) k n∈x.ov.map Prod.fst/\jL (qW w) (itF (uA (qW w)) k n)=none:=za2 hw hx hxi hl
 have hnx:=fun k=>zin hx (hch2 k).1 (hch2 k).2
 obtain⟨f,hf⟩:∃f,f=uA (qW w):=⟨_,rfl⟩
 rw[<-hf]at hV
 simp only[<-hf,<-cX]at hch2 hnx
 have hlt:∀k,itF f k n<w.acts.length:=fun k=>by
  obtain⟨p,hp,h⟩:=List.mem_map.1 (hch2 k).1
  rw[<-h];exact(hx.fin p hp).1
 have hroom:∀k,(orb f n k).Nodup->k<=w.acts.length:=fun k hd=>by
  have:=List.Nodup.length_le_of_subset (l₂:=List.range w.acts.length) hd fun y hy=>by
   obtain⟨j,_,rfl⟩:=gS.1 hy
   exact List.mem_range.2 (hlt j)
  rw[yR]at this;simpa using this
 have hwn:=hw.n
 have n1:=hne.bo
 have n2:=hne.by'
 have n3:=hne.bt
 have n4:=hne.oy
 have n5:=hne.ot
 have n6:=hne.yt
 have m1:¬B=O:=fun e=>n1 e.symm
 have m2:¬B=Y:=fun e=>n2 e.symm
 have m3:¬B=T:=fun e=>n3 e.symm
 have m4:¬O=Y:=fun e=>n4 e.symm
 have m5:¬O=T:=fun e=>n5 e.symm
 have m6:¬Y=T:=fun e=>n6 e.symm
 have hHe2:=YD B O Y T w [] x
 have hmk:=fun p=>zdw w.acts (by omega) (fun a ha=>by have:=(hw.a a ha).b.bo;omega) p
 have hea:=ZT w.acts
 simp (disch:=omega) [zz,z7,hk]
 refine AT.loop' (α:=Nat) (fun k=>St.of [(1,.av (.int .i64) (.i .i64 (itF f k n:Nat))),(2,.loc 2 []),(5,.av .ptr (.ptr B BdT [])),(6,.av (.slice 3) (.sl (tkG 37 k) ((orb f n k).map wH)))] [(2,(CZ,W))] (fun j=>if j=37 then k else 0) (bdH B O Y T w [] x))
  (fun k=>k<=w.acts.length/\(orb f n k).Nodup) (fun k=>w.acts.length+1-k) 0 ?_ ⟨by omega,by simp[orb]⟩ ?_
 ·have h0:orb f n 0=[]:=rfl
  have h00:itF f 0 n=n:=rfl
  apply Le.of<;>simp[zR,qI,z6,tkG,h0,h00,hWE,yR]<;>try omega
 rintro k ⟨hkn,hd⟩ KL hN hE
 have hcn:=zcN (orb f n k) (itF f k n) (by rw[yR];omega)
 have hol:=yR f n k
 refine zrd zpD ?_
 simp (disch:=omega) [zz]
 refine qO hcn rfl rfl (by simp[qE]) (by simp[qR,TV.er,AV.er,jX,AV.ers_eq,Function.comp_def,wH]) ?_
 by_cases hin:itF f k n∈orb f n k
 rotate_left
 ·have hd':(orb f n (k+1)).Nodup:=by
   rw[G0,List.nodup_append]
   exact⟨hd,by simp,fun a ha b hb e=>hin (by rw[List.mem_singleton.1 hb]at e;exact e▸ha)⟩
  have hk1:=hroom (k+1) hd'
  simp (disch:=omega) [zz,hin]
  refine xQ (by simp) (by simp;omega) (by simp;omega) (by simp) (by simp) ?_
  obtain⟨h5,h6⟩:=hnx k
  have hwf:=zdU (itF f k n) x.wt
  rw[h5]at hwf
  simp only[Option.map_some]at hwf
  have hmk1:=hmk (xF (qW w) (itF f k n)).asks
  rw[h6]at hmk1
  simp (disch:=omega) [zz,hWE,KJ,n3,m3,n5,m5,n6,m6,hwf]
  (repeat with_reducible refine om ?_)
  refine kP hmk1 rfl rfl (by simp) (by simp[qR,coC,TV.er,AV.er,gD,jP]) ?_
  simp (disch:=omega) [zz]
  (repeat with_reducible refine om ?_)
  have hos:=G0 f n k
  have his:=cX f k n
  refine hN _ (k+1) ?_ ⟨hk1,hd'⟩ (by omega)
  rw[his,hos]
  apply Le.of<;>simp[zR,qI,z6,hWE,KJ,wH]<;>try omega
  all_goals (intro j;by_cases hj:j=37<;>simp[hj])
 ·obtain⟨a,hak,hae⟩:=gS.1 hin
  have hix:=GN (orb f n k) (itF f k n) (by rw[yR];omega)
  rcases ZS (fun y=>decide (y=itF f k n)) (orb f n k)with⟨_,hall⟩|⟨a,ha,he,hs,_⟩
  ·exact absurd (hall _ hin) (by simp)
  rw[he]at hix
  rw[yR]at ha
  have has:itF f a n=itF f k n:=by
   have:=dH f n k a (by rw[yR];exact ha)
   rw[this]at hs;simpa using hs
  obtain⟨r,hr⟩:∃r,r=(orb f n k).drop a:=⟨_,rfl⟩
  have hrl:r.length=k-a:=by rw[hr,List.length_drop,yR]
  obtain⟨y,r',hry⟩:∃y r',r=y::r':=by
   cases hrr:r with
   | nil=>rw[hrr]at hrl;simp at hrl;omega
   | cons y r'=>exact⟨y,r',rfl⟩
  have hmn:=zm9 y r' (by have:=congrArg List.length hry;simp at this;omega)
  have hmm:=zkq y r'
  have hml:=zmX y r'
  rw[<-hry]at hmn hmm
  obtain⟨mn,hmn2⟩:∃mn,mn=YM y r':=⟨_,rfl⟩
  rw[<-hmn2]at hmn hmm hml
  have hix2:=GN r mn (by omega)
  rcases ZS (fun y=>decide (y=mn)) r with⟨_,hall⟩|⟨c,hc2,he2,hs2,_⟩
  ·exact absurd (hall _ hmm) (by simp)
  rw[he2]at hix2
  have hcm:r[c]=mn:=by simpa using hs2
  have hVr:zd5 f n=r.drop c++r.take c:=zkz hd ha has hr hc2 fun j hj=>by
   rw[hcm]
   rw[hry]at hj
   rcases List.mem_cons.1 hj with rfl|hj
   ·exact hml.1
   ·exact hml.2 j hj
  have hcat:=zfb [r.drop c,r.take c] (by simp;omega) (by simp;omega) (by simp)
  have hfl:[r.drop c,r.take c].flatten=r.drop c++r.take c:=by simp
  rw[hfl,<-hVr,<-hV]at hcat
  have hki:(a:Int)<=k:=by omega
  have hki0:¬(a:Int)<0:=by omega
  simp (disch:=omega) [zz,hin]
  refine hE _ _ (by simp) ?_
  simp (disch:=omega) [zz]
  refine qO hix rfl rfl (by simp[qE]) (by simp[qR,TV.er,AV.er,jX,AV.ers_eq,Function.comp_def,wH]) ?_
  have hcut:List.drop a (List.take k (List.map wH (orb f n k)))=r.map wH:=by
   rw[List.take_of_length_le (by simp[yR]),hr,List.map_drop]
  simp (disch:=omega) [zz,hol,hki,hki0,hcut]
  refine qO hmn rfl rfl (by simp[qE]) (by simp[qR,TV.er,AV.er,jX,AV.ers_eq,Function.comp_def,wH]) ?_
  simp (disch:=omega) [zz]
  refine qO hix2 rfl rfl (by simp[qE]) (by simp[qR,TV.er,AV.er,jX,AV.ers_eq,Function.comp_def,wH]) ?_
  have hci:(c:Int)<=r.length:=by omega
  have hci0:¬(c:Int)<0:=by omega
  have hd1:List.drop c (List.take r.length (List.map wH r))=(r.drop c).map wH:=by
   rw[List.take_of_length_le (by simp),List.map_drop]
  have hd2:List.take c (List.map wH r)=(r.take c).map wH:=List.map_take.symm
  have hve:=zdf V
  have hen:∀n,(wH n).er=wH n:=fun _=>rfl
  have hvs:jX V=.sl .no (V.map wH):=rfl
  simp (disch:=omega) [zz,hci,hci0]
  refine kP hcat rfl rfl (by simp) (by rw[hd1,hd2];simp[qR,coC,TV.er,AV.er,AV.ers,jX,AV.ers_eq,Function.comp_def,hen]) ?_
  simp (disch:=omega) [zz]
  (repeat with_reducible refine om ?_)
  simp (disch:=omega) [zz,Tryz.f13,hve]
def fxA:Txt:=[111,117,116,47,97]
def fxB:Txt:=[111,117,116,47,98]
def zhM:List Txt:=[[114,101,97,100,32,111,117,116,47,98],[119,114,105,116,101,32,111,117,116,47,97]]
def zit:List Txt:=[[114,101,97,100,32,111,117,116,47,97],[119,114,105,116,101,32,111,117,116,47,98]]
def DX:Txt:=[114,101,97,100,32,111,117,116,47,98,10,119,114,105,116,101,32,111,117,116,47,97,10]
def CB:Txt:=[114,101,97,100,32,111,117,116,47,97,10,119,114,105,116,101,32,111,117,116,47,98,10]
def fxW:zV:=⟨[],[⟨[],[],DX,[],[fxB],[],[fxA]⟩,⟨[],[],CB,[],[fxA],[],[fxB]⟩],[fxA],false⟩
theorem zcq {t l1 l2 P Q:Txt} (hl:qU t=[l1,l2]) (ht:¬65536<t.length) (h1:zG l1=[zU,P]) (h2:zG l2=[jN,Q]) (g1:VJ [zU,P]=true) (g2:VJ [jN,Q]=true):∃cs,zL t=.ok cs:=by
 have hc:DG t=(0,0):=by
  unfold DG
  rw[hl,if_neg (by simpa using ht)]
  simp[zcX,h1,h2,g1,g2]
 rcases zeC t with⟨cs,h,_⟩|⟨e,n,_,h,h0⟩
 ·exact⟨cs,h⟩
 ·rw[hc]at h
  exact absurd (congrArg Prod.fst h).symm h0
theorem zm1 {t l1 l2 P Q:Txt} (hl:qU t=[l1,l2]) (h1:zG l1=[zU,P]) (hp:G7 [zU,P]=false):(XZ [] [] (qU t) st0).stop=⟨1,P,[],0⟩/\(XZ [] [] (qU t) st0).wrote=[]:=by
 have hs:pN [] [] l1 [zU,P] st0={ (st0:StV)with asked:=[P],stop:=⟨1,P,[],0⟩ }:=by
  simp[pN,yM,st0,do0,j3]
 rw[hl]
 simp only[XZ,h1,hp,hs]
 simp[st0]
theorem zdi {t l1 l2 P:Txt} {outs:List Txt} {may:Txt->Bool} {cs:List CmdV} (hcs:zL t=.ok cs) (hl:qU t=[l1,l2]) (h1:zG l1=[zU,P]) (hp:G7 [zU,P]=false) (hm:may P=true):(X3 [] outs may cs).over=false/\(X3 [] outs may cs).asks=P:=by
 have h0:=dV hcs (env:=[]) (by simp) (by simp) outs may
 obtain⟨b,hb⟩:∃b,b=X3 [] outs may cs:=⟨_,rfl⟩
 rw[<-hb]at h0 |-
 obtain⟨_,i,hi⟩:=uJ hcs
 have hfl:zil [] cs (qU t):=⟨⟨i,hi⟩⟩
 obtain⟨f1,f2⟩:=zm1 (Q:=[]) hl h1 hp
 obtain⟨wr,hs⟩:=h0.s
 cases (hs.far hfl).1 with
 | waits h1 h2 h3 h4 h5 h6=>rw[f1]at h3;exact⟨h4,h3⟩
 | read h1 h2=>rw[f1]at h2;simp only at h2;rw[hm]at h2;cases h2
 | ended h1=>rw[f1]at h1;cases h1
 | short h1=>rw[f1]at h1;cases h1
 | failed h1=>rw[f1]at h1;cases h1
 | wrote wr d h1=>rw[f2]at h1;simp at h1
theorem zgT:(GO ⟨[],[],DX,[],[fxB],[],[fxA]⟩).over=false/\(GO ⟨[],[],DX,[],[fxB],[],[fxA]⟩).asks=fxB:=by
 obtain⟨cs,hcs⟩:=zcq (t:=DX) (l1:=zhM[0]) (l2:=zhM[1]) (P:=fxB) (Q:=fxA) (by decide) (by decide) (by decide) (by decide) (by decide) (by decide)
 have hc:gG ⟨[],[],DX,[],[fxB],[],[fxA]⟩=cs:=by unfold gG;rw[hcs]
 unfold GO
 rw[hc]
 exact zdi hcs (by decide:qU DX=[zhM[0],zhM[1]]) (by decide) (by decide) (by simp[QS,zap,fxA,fxB])
theorem zh2:(GO ⟨[],[],CB,[],[fxA],[],[fxB]⟩).over=false/\(GO ⟨[],[],CB,[],[fxA],[],[fxB]⟩).asks=fxA:=by
 obtain⟨cs,hcs⟩:=zcq (t:=CB) (l1:=zit[0]) (l2:=zit[1]) (P:=fxA) (Q:=fxB) (by decide) (by decide) (by decide) (by decide) (by decide) (by decide)
 have hc:gG ⟨[],[],CB,[],[fxA],[],[fxB]⟩=cs:=by unfold gG;rw[hcs]
 unfold GO
 rw[hc]
 exact zdi hcs (by decide:qU CB=[zit[0],zit[1]]) (by decide) (by decide) (by simp[QS,zap,fxA,fxB])
theorem zcQ:KC (qW fxW) 0 1:=by
 refine⟨fxB,⟨(qW fxW).b0 0,.refl _,?_,?_⟩,?_⟩
 ·exact zgT.1
 ·exact zgT.2
 ·show wJ fxW.acts fxB=some 1
  decide
theorem zhk:KC (qW fxW) 1 0:=by
 refine⟨fxA,⟨(qW fxW).b0 1,.refl _,?_,?_⟩,?_⟩
 ·exact zh2.1
 ·exact zh2.2
 ·show wJ fxW.acts fxA=some 0
  decide
theorem zaS:jL (qW fxW) 0=none:=U6 (.tail (.single zcQ) zhk)
theorem zaQ:jL (qW fxW) 1=none:=U6 (.tail (.single zhk) zcQ)
theorem zoH:(kS (qW fxW) 0).kind=3:=by unfold kS;rw[zaS];rfl
theorem zjJ:(kS (qW fxW) 1).kind=3:=by unfold kS;rw[zaQ];rfl
theorem exw_c:WkC fxW:=by
 refine⟨by simp[fxW],by simp[fxW],?_,by simp[fxW],by decide,by simp[fxW]⟩
 intro a ha
 simp only[fxW,List.mem_cons,List.not_mem_nil,or_false]at ha
 rcases ha with rfl|rfl
 ·exact⟨⟨by decide,by decide,by simp,by decide,by decide,by simp,by decide⟩,by decide,by decide⟩
 ·exact⟨⟨by decide,by decide,by simp,by decide,by decide,by simp,by decide⟩,by decide,by decide⟩
theorem zo1:Y3 DX=(0,0):=by
 obtain⟨cs,hcs⟩:=zcq (t:=DX) (l1:=zhM[0]) (l2:=zhM[1]) (P:=fxB) (Q:=fxA) (by decide) (by decide) (by decide) (by decide) (by decide) (by decide)
 unfold Y3;rw[hcs]
theorem zoF:Y3 CB=(0,0):=by
 obtain⟨cs,hcs⟩:=zcq (t:=CB) (l1:=zit[0]) (l2:=zit[1]) (P:=fxA) (Q:=fxB) (by decide) (by decide) (by decide) (by decide) (by decide) (by decide)
 unfold Y3;rw[hcs]
theorem zpj:w5 fxA=true/\w5 fxB=true/\Z8 fxA YR=true/\Z8 fxB YR=true:=by
 decide
theorem zc4:X0 fxW=0:=by
 obtain⟨p1,p2,p3,p4⟩:=zpj
 have h1:XW fxW.files=0:=zbV (by simp[fxW]) (fun j hj=>by simp[fxW]at hj)
 have h2:(gO fxW.acts).1=0:=by
  have hne:¬fxB=fxA:=by decide
  unfold gO
  rw[if_neg (by simp[fxW])]
  simp[fxW,goC,pF,zo1,zoF,p1,p2,p3,p4,dN,hne]
 unfold X0
 rw[if_neg (by simp[h1]),if_neg (by simp[h2]),if_neg (by simp[fxW]),if_pos (by simp[fxW,p1])]
theorem zlw:zd8 fxW:=exw_c.ok zc4
theorem znZ:kJ (qW fxW) (jL (qW fxW)) fxB=none:=by
 unfold kJ
 rw[show (qW fxW).who fxB=some 1 from by show wJ fxW.acts fxB=some 1;decide]
 simp only[zaQ]
theorem zot:kJ (qW fxW) (jL (qW fxW)) fxA=none:=by
 unfold kJ
 rw[show (qW fxW).who fxA=some 0 from by show wJ fxW.acts fxA=some 0;decide]
 simp only[zaS]
theorem zo3:xF (qW fxW) 0=(qW fxW).b0 0 :=
 (G2 (zcU zlw (by decide:0<fxW.acts.length)).1 (.refl _) (.inr (by rw[show ((qW fxW).b0 0).asks=fxB from zgT.2];exact znZ))).2
theorem zoO:xF (qW fxW) 1=(qW fxW).b0 1 :=
 (G2 (zcU zlw (by decide:1<fxW.acts.length)).1 (.refl _) (.inr (by rw[show ((qW fxW).b0 1).asks=fxA from zh2.2];exact zot))).2
theorem zoj:(xF (qW fxW) 0).asks=fxB:=by rw[zo3];exact zgT.2
theorem zoK:(xF (qW fxW) 1).asks=fxA:=by rw[zoO];exact zh2.2
theorem zjp:uA (qW fxW) 0=1/\uA (qW fxW) 1=0:=by
 unfold uA
 rw[zoj,zoK]
 exact⟨by show (wJ fxW.acts fxB).getD 0=1;decide,by show (wJ fxW.acts fxA).getD 0=0;decide⟩
theorem zlL:zaR fxW 1=[0,1]:=by
 unfold zaR
 rw[if_pos ⟨zc4,by decide,by decide⟩,show (1:Int).toNat=1 from rfl,if_pos zjJ]
 have e:orb (uA (qW fxW)) 0 2=[0,1]:=by
  show [itF (uA (qW fxW)) 0 0,itF (uA (qW fxW)) 1 0]=[0,1]
  simp[itF,zjp.1]
 have hr:XD (uA (qW fxW)) [0,1]:=⟨0,2,by decide,e.symm,by simp[itF,zjp.1,zjp.2],by decide,by decide⟩
 exact zdb (t:=0) hr (by simp[itF])
theorem ziW:yP fxW 0/\yP fxW 1:=by
 have h0:wJ fxW.acts fxA=some 0:=by decide
 exact⟨⟨fxA,by decide,0,h0,.inl rfl⟩,⟨fxA,by decide,0,h0,.inr (.single zcQ)⟩⟩
theorem zlj:zdh fxW=[kS (qW fxW) 0,kS (qW fxW) 1]:=by
 have e:fxW.acts.length=2:=rfl
 unfold zdh
 rw[e,show List.range 2=[0,1] from rfl]
 simp only[List.map_cons,List.map_nil]
 rw[if_pos ziW.1,if_pos ziW.2]
theorem zg4:PC Tryz.prog 5 [] (.av .bool (.b true)):=by
 have hb:=zlS fxW exw_c
 have hr:=zmw fxW exw_c 1
 rw[zlL]at hr
 have e1:zi9 fxW=(WH fxW,0):=by unfold zi9;rw[if_neg (by simp[zc4])]
 rw[e1]at hb
 have e2:kB (WH fxW)=.agg [.sl .no [z7 (kS (qW fxW) 0),z7 (kS (qW fxW) 1)],.sl .no ((WH fxW).ran.map (.i .i64 ·)),.sl .no [],qL (WH fxW).files]:=by
  unfold kB WH
  simp only[zlj]
  rfl
 rw[e2]at hb
 have k0:=zoH
 have k1:=zjJ
 have hW:yV fxW=.agg [.sl .no [],.sl .no [.agg [.agg [.s [],.s []],.s DX,.sl .no [],.sl .no [.s fxB],.sl .no [],.sl .no [.s fxA]],.agg [.agg [.s [],.s []],.s CB,.sl .no [],.sl .no [.s fxA],.sl .no [],.sl .no [.s fxB]]],.sl .no [.s fxA],.b false]:=rfl
 rw[hW]at hb hr
 obtain⟨F,hF⟩:∃F,F=kS (qW fxW) 0:=⟨_,rfl⟩
 obtain⟨G,hG⟩:∃G,G=kS (qW fxW) 1:=⟨_,rfl⟩
 rw[<-hF]at k0
 rw[<-hG]at k1
 rw[<-hF,<-hG]at hb
 obtain⟨X,hX⟩:∃X,X=qL (WH fxW).files:=⟨_,rfl⟩
 obtain⟨Z,hZ⟩:∃Z,Z=AV.sl .no ((WH fxW).ran.map (.i .i64 ·)):=⟨_,rfl⟩
 rw[<-hX,<-hZ]at hb
 refine zow Tryz.func5 cf0 fun imm0 w0=>?_
 simp (disch:=omega) [zz]
 refine qO hb rfl rfl (by simp) (by simp[qR,TV.er,AV.er,AV.ers,DX,CB,fxA,fxB]) ?_
 clear hb
 simp (disch:=omega) [zz]
 refine qO hr rfl rfl (by simp) (by simp[qR,coC,TV.er,AV.er,AV.ers,DX,CB,fxA,fxB,wH]) ?_
 clear hr
 simp (disch:=omega) [zz,z7,k0,k1,jX,wH,Tryz.f5]
end
end Go.Proofs.YtdkieabmeiojjaaGreatDoor
