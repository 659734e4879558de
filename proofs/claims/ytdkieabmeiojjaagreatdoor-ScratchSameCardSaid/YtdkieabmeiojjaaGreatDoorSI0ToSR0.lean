/- A number in a row; the least. No condition. -/
import Derived.Test.YtdkieabmeiojjaaGreatDoorSBFToSB5
set_option linter.unusedSimpArgs false
set_option linter.unusedVariables false
set_option linter.unusedSectionVars false
set_option maxHeartbeats 64000000
set_option maxRecDepth 100000
namespace Go.Proofs.YtdkieabmeiojjaaGreatDoor
open Go Go.Ab
open Classical
section
variable [Sel]
def wH (n:Nat):AV:=.i .i64 (n:Int)
def jX (l:List Nat):AV:=.sl .no (l.map wH)
theorem zdf (l:List Nat):(jX l).er=jX l:=by simp[jX,AV.er,AV.ers_eq,Function.comp_def,wH]
theorem GN (ts:List Nat) (x:Nat) (hn:ts.length<=1000000000):PC Tryz.prog 38 [.av (.slice 3) (jX ts),.av (.int .i64) (wH x)] (.av (.int .i64) (.i .i64 (QJ (fun y=>decide (y=x)) ts))):=by
 refine zow Tryz.func38 cf0 fun imm0 w0=>?_
 simp (disch:=omega) [zz,jX,wH]
 refine AT.loop' (α:=Nat) (fun k=>St.of [(0,.av (.slice 3) (jX ts)),(1,.av (.int .i64) (wH x)),(7,.av (.int .i64) (.i .i64 ts.length)),(8,.av (.int .i64) (.i .i64 k))] [] (fun _=>0) [])
  (fun k=>k<=ts.length/\∀y∈ts.take k,(fun y=>decide (y=x)) y=false) (fun k=>ts.length-k) 0 ?_ ?_ ?_
 ·apply Le.of<;>simp[zR,qI,z6,jX,wH]<;>try omega
 ·simp
 rintro k ⟨hk',hpk⟩ KL hN hE
 refine zrd cf0 ?_
 by_cases hlt:k<ts.length
 ·have hlt':(k:Int)<ts.length:=by omega
  have hg:=kG wH ts k hlt
  by_cases hp:ts[k]=x
  ·have hi:=JR (p:=fun y=>decide (y=x)) hlt hpk (by simpa using hp)
   generalize ts[k]=y at *
   subst hp
   simp (disch:=omega) [zz,hlt',hg,jX,wH]
   refine hE _ _ (by simp) ?_
   simp (disch:=omega) [zz,Tryz.f38,hi]
  ·have hp':¬x=ts[k]:=fun e=>hp e.symm
   have hp2:¬((x:Int)=(ts[k]:Nat)):=fun e=>hp' (by omega)
   simp (disch:=omega) [zz,hlt',hg,hp',hp2,jX,wH]
   refine hN _ (k+1) ?_ ⟨by omega,by rw[yC hlt];exact⟨hpk,by simpa using hp⟩⟩ (by omega)
   apply Le.of<;>simp[zR,qI,z6,jX,wH]<;>try omega
 ·have hlt':¬(k:Int)<ts.length:=by omega
  simp (disch:=omega) [zz,hlt',jX,wH]
  refine hE _ _ (by simp) ?_
  rw[List.take_of_length_le (by omega)]at hpk
  simp (disch:=omega) [zz,Tryz.f38,ZP (p:=fun y=>decide (y=x)) hpk]
theorem zcN (ts:List Nat) (x:Nat) (hn:ts.length<=1000000000):PC Tryz.prog 36 [.av (.slice 3) (jX ts),.av (.int .i64) (wH x)] (.av .bool (.b (decide (x∈ts)))):=by
 have hee:=zdf ts
 have hex:(wH x).er=wH x:=by simp[wH,AV.er]
 refine zow Tryz.func36 cf0 fun imm0 w0=>?_
 simp (disch:=omega) [zz]
 refine qO (GN ts x hn) rfl rfl (by simp) (by simp[qR,TV.er,AV.er,hee,hex]) ?_
 rcases ZS (fun y=>decide (y=x)) ts with⟨he,hall⟩|⟨i,hi,he,hs,_⟩
 ·have:¬x∈ts:=fun h=>by have:=hall x h;simp at this
  simp (disch:=omega) [zz,he,this,Tryz.f36]
 ·have h1:x∈ts:=by simp at hs;rw[<-hs];exact List.getElem_mem hi
  have h2:(0:Int)<=i:=by omega
  simp (disch:=omega) [zz,he,h1,h2,Tryz.f36]
def YM (x:Nat) (l:List Nat):Nat:=l.foldl Nat.min x
theorem zm9 (x:Nat) (l:List Nat) (hn:l.length<=1000000000):PC Tryz.prog 39 [.av (.slice 3) (jX (x::l))] (.av (.int .i64) (wH (YM x l))):=by
 obtain⟨ts,hts⟩:∃ts,ts=x::l:=⟨_,rfl⟩
 have hlen:ts.length=l.length+1:=by rw[hts];rfl
 have hg0:(ts.map wH)[0]?=some (wH x):=by rw[hts];rfl
 rw[<-hts]
 have h1:¬(ts.length:Int)<1:=by omega
 have h0:0<ts.length:=by omega
 refine zow Tryz.func39 cf0 fun imm0 w0=>?_
 simp (disch:=omega) [zz,jX,h1,h0,hg0]
 refine AT.loop' (α:=Nat) (fun k=>St.of [(0,.av (.slice 3) (jX ts)),(3,.av (.int .i64) (wH (YM x (l.take k)))),(4,.av (.int .i64) (.i .i64 ((k:Int)+1)))] [] (fun _=>0) [])
  (fun k=>k<=l.length) (fun k=>l.length-k) 0 ?_ ?_ ?_
 ·apply Le.of<;>simp[zR,qI,z6,jX,wH,YM]<;>try omega
 ·omega
 rintro k hk KL hN hE
 refine zrd cf0 ?_
 by_cases hlt:k<l.length
 ·have hlt':(k:Int)+1<ts.length:=by omega
  have hg:(ts.map wH)[k+1]?=some (wH l[k]):=by rw[hts];simp[hlt]
  have hk1:((k:Int)+1).toNat=k+1:=by omega
  have hge:(0:Int)<=(k:Int)+1:=by omega
  have hlt2:k+1<ts.length:=by omega
  have hst:YM x (l.take (k+1))=Nat.min (YM x (l.take k)) l[k]:=by
   unfold YM;rw[List.take_succ_eq_append_getElem hlt,List.foldl_append];rfl
  generalize l[k]=y at *
  simp (disch:=omega) [zz,hlt',hg,hk1,hge,hlt2,jX,wH]
  have hmin:(if y<YM x (l.take k) then(y:Int) else(YM x (l.take k):Nat))=((YM x (l.take (k+1)):Nat):Int):=by
   rw[hst]
   have:Nat.min (YM x (l.take k)) y=min (YM x (l.take k)) y:=rfl
   rw[this]
   split<;>omega
  refine hN _ (k+1) ?_ (by omega) (by omega)
  apply Le.of<;>simp[zR,qI,z6,hmin,jX,wH]<;>try omega
 ·have hlt':¬(k:Int)+1<ts.length:=by omega
  simp (disch:=omega) [zz,hlt',jX,wH]
  refine hE _ _ (by simp) ?_
  rw[List.take_of_length_le (by omega)]
  simp (disch:=omega) [zz,Tryz.f39,wH]
def z64:AV:=.i .i64 0
noncomputable def rwI (cap:Nat) (xs:List Nat):HObj:=.var (.arr cap 3) (.agg (xs.map wH++List.replicate (cap-xs.length) z64))
theorem zjH (cap:Nat) (xs:List Nat):(rwI cap xs).er=rwI cap xs:=by
 simp[rwI,HObj.er_var,AV.erk,AV.erks_eq,Function.comp_def,wH,z64]
def GrR (n:Nat) (r:TV) (H':q8):Prop:=∃b cap,n<=cap/\r=.av (.slice 3) (.msl b 3 0 0 cap)/\H'=[(b,rwI cap [])]
theorem zk4 (n:Nat) (h0:0<n) (hn:n<=1000000000):q7 Tryz.prog 60 [.cst (.slice none 0 0),.av (.int .i64) (.i .i64 n)] [] (GrR n):=by
 refine q7.argNil (e:=3) ?_
 have h1:¬(n:Int)<0:=by omega
 have h2:(0:Int)<n:=by omega
 refine zov Tryz.func60 cf0 fun imm0 w0=>?_
 simp (disch:=omega) [zz,h1,h2]
 refine⟨fun _=>⟨h0,⟨by omega,by omega⟩,fun b cap hc=>⟨hc,?_⟩⟩,fun h=>by omega⟩
 simp (disch:=omega) [zz,Tryz.f60]
 have he:=zjH cap []
 exact⟨b,cap,hc,rfl,by simpa[rwI,z64,HObj.er_var,AV.erk]using he⟩
def x8 (ls:List (List Nat)) (k:Nat):List Nat:=(ls.take k).flatten
theorem zld (ls:List (List Nat)):x8 ls ls.length=ls.flatten:=by unfold x8;rw[List.take_length]
theorem zbd (ls:List (List Nat)) (k:Nat) (h:k<ls.length):x8 ls (k+1)=x8 ls k++ls[k]:=by
 unfold x8
 rw[List.take_succ_eq_append_getElem h,List.flatten_append];simp
theorem zgv (ls:List (List Nat)) (k:Nat):(x8 ls k).length<=ls.flatten.length:=by
 unfold x8
 conv=>rhs;rw[<-List.take_append_drop k ls,List.flatten_append,List.length_append]
 omega
theorem zmA {cap:Nat} {xs ys:List Nat} (h:xs.length+ys.length<=cap) :
  (xs.map wH++List.replicate (cap-xs.length) z64).take xs.length++ys.map wH++(xs.map wH++List.replicate (cap-xs.length) z64).drop (xs.length+ys.length)=(xs++ys).map wH++List.replicate (cap-(xs++ys).length) z64:=by
 rw[List.take_left' (by simp),<-List.drop_drop,List.drop_left' (by simp),List.drop_replicate,List.map_append,List.length_append]
 congr 2
 omega
theorem zfP (ls:List (List Nat)) (F:List Nat) (hF:F=ls.flatten) (h0:0<F.length) (hn:F.length<=1000000000) (hk:ls.length<=1000000000) :
  q7 Tryz.prog 40 [.av (.slice 23) (.sl .no (ls.map jX))] [] fun r H'=>∃b cap,F.length<=cap/\r=.av (.slice 3) (.msl b 3 0 F.length cap)/\H'=[(b,rwI cap F)]:=by
 have hF0:=zld ls
 rw[<-hF]at hF0
 have hz0:x8 ls 0=[]:=rfl
 refine zov Tryz.func40 cf0 fun imm0 w0=>?_
 simp (disch:=omega) [zz]
 refine AT.loop' (α:=Nat) (fun k=>St.of [(0,.av (.slice 23) (.sl .no (ls.map jX))),(3,.av (.int .i64) (.i .i64 (x8 ls k).length)),(9,.av (.slice 23) (.sl .no (ls.map jX))),(10,.av (.int .i64) (.i .i64 ls.length)),(11,.av (.int .i64) (.i .i64 k))] [] (fun _=>0) [])
  (fun k=>k<=ls.length) (fun k=>ls.length-k) 0 ?_ ?_ ?_
 ·apply Le.of<;>simp[zR,qI,z6,hz0]<;>try omega
 ·omega
 rintro k hk KL hN hE
 refine zrd cf0 ?_
 by_cases hlt:k<ls.length
 ·have hlt':(k:Int)<ls.length:=by omega
  have hg:=kG jX ls k hlt
  have hs:=congrArg List.length (zbd ls k hlt)
  have hle:=zgv ls (k+1)
  rw[<-hF]at hle
  rw[List.length_append]at hs
  have hng:¬(((x8 ls k).length:Int)+ls[k].length<0):=by omega
  have hs':((x8 ls (k+1)).length:Int)=(x8 ls k).length+ls[k].length:=by omega
  generalize (x8 ls k).length=m at *
  simp (disch:=omega) [zz,hlt',hg,jX,hng]
  refine hN _ (k+1) ?_ (by omega) (by omega)
  apply Le.of<;>simp[zR,qI,z6,hs',jX]<;>try omega
 have hkn:k=ls.length:=by omega
 subst hkn
 have hlt':¬(ls.length:Int)<ls.length:=by omega
 simp (disch:=omega) [zz,hlt']
 refine hE _ _ (by simp) ?_
 rw[hF0]
 clear hN hE
 simp (disch:=omega) [zz]
 refine w8 (R:=GrR F.length) rfl (by simp[qE]) (by simp) ?_ ?_
 ·simpa[TV.er,AV.er,q8.er_nil]using zk4 F.length h0 hn
 rintro r H ⟨b,cap,hcap,rfl,rfl⟩
 simp (disch:=omega) [zz]
 refine AT.loop' (α:=Nat) (fun k=>St.of [(6,.av (.slice 3) (.msl b 3 0 (x8 ls k).length cap)),(25,.av (.slice 23) (.sl .no (ls.map jX))),(26,.av (.int .i64) (.i .i64 ls.length)),(27,.av (.int .i64) (.i .i64 k))] [] (fun _=>0) [(b,rwI cap (x8 ls k))])
  (fun k=>k<=ls.length) (fun k=>ls.length-k) 0 ?_ ?_ ?_
 ·apply Le.of<;>simp[zR,qI,z6,hz0]<;>try omega
 ·omega
 rintro k hk KL hN hE
 refine zrd cf0 ?_
 by_cases hlt:k<ls.length
 ·have hlt':(k:Int)<ls.length:=by omega
  have hg:=kG jX ls k hlt
  have hst:=zbd ls k hlt
  have hs:=congrArg List.length hst
  have hle:=zgv ls (k+1)
  rw[<-hF]at hle
  rw[List.length_append]at hs
  have hput:=zmA (cap:=cap) (xs:=x8 ls k) (ys:=ls[k]) (by omega)
  rw[<-hst]at hput
  have hng:¬cap<(x8 ls k).length+ls[k].length:=by omega
  have hng2:(x8 ls k).length+ls[k].length<=cap:=by omega
  simp (disch:=omega) [zz,hlt',hg,jX,rwI,hng,hng2]
  refine⟨by omega,⟨by omega,by omega⟩,?_⟩
  have hs':(x8 ls (k+1)).length=(x8 ls k).length+ls[k].length:=hs
  refine hN _ (k+1) ?_ (by omega) (by omega)
  apply Le.of<;>simp[zR,qI,z6,rwI,jX,hs']<;>try omega
  rw[hs',List.take_left' (by simp),List.append_assoc]at hput
  exact hput.symm
 have hkn:k=ls.length:=by omega
 subst hkn
 have hlt':¬(ls.length:Int)<ls.length:=by omega
 simp (disch:=omega) [zz,hlt']
 refine hE _ _ (by simp) ?_
 rw[hF0]
 have he:=zjH cap F
 simp (disch:=omega) [zz,Tryz.f40,he]
 exact⟨b,cap,by omega,⟨rfl,rfl⟩,rfl,rfl⟩
theorem zfb (ls:List (List Nat)) (h0:0<ls.flatten.length) (hn:ls.flatten.length<=1000000000) (hk:ls.length<=1000000000) :
  PC Tryz.prog 40 [.av (.slice 23) (.sl .no (ls.map jX))] (.av (.slice 3) (jX ls.flatten)):=by
 refine(zfP ls _ rfl h0 hn hk).freeze laid ?_
 rintro r H' ⟨b,cap,h1,rfl,rfl⟩ _
 refine .inl ⟨b,cap,3,_,[],List.Perm.refl _,?_,rfl⟩
 simp only[zaK,fzA]
 rw[if_pos ⟨trivial,trivial,by omega,by omega⟩,List.drop_zero,List.take_left' (by rw[List.length_map])]
 rfl
end
section
variable [Sel] [SelPow] [SelMax]
def itF (f:Nat->Nat):Nat->Nat->Nat
 | 0,i=>i
 | k+1,i=>itF f k (f i)
theorem ZK (f:Nat->Nat):∀(a b i:Nat),itF f (a+b) i=itF f b (itF f a i)
 | 0,b,i=>by rw[Nat.zero_add];rfl
 | a+1,b,i=>by
  rw[show a+1+b=(a+b)+1 from by omega]
  exact ZK f a b (f i)
theorem cX (f:Nat->Nat) (k i:Nat):itF f (k+1) i=f (itF f k i):=ZK f k 1 i
def orb (f:Nat->Nat) (i n:Nat):List Nat:=(List.range n).map fun k=>itF f k i
theorem yR (f:Nat->Nat) (i n:Nat):(orb f i n).length=n:=by simp[orb]
theorem dH (f:Nat->Nat) (i n k:Nat) (h:k<(orb f i n).length):(orb f i n)[k]=itF f k i:=by simp[orb]
theorem gS {f:Nat->Nat} {i n j:Nat}:j∈orb f i n<->∃k,k<n/\itF f k i=j:=by simp[orb]
theorem G0 (f:Nat->Nat) (i n:Nat):orb f i (n+1)=orb f i n++[itF f n i]:=by simp[orb,List.range_succ]
theorem G8 (f:Nat->Nat) (i a:Nat):∀b:Nat,orb f i (a+b)=orb f i a++orb f (itF f a i) b
 | 0=>by simp[orb]
 | b+1=>by rw[<-Nat.add_assoc,G0,G8 f i a b,G0,ZK,List.append_assoc]
def XD (f:Nat->Nat) (l:List Nat):Prop:=∃h n,0<n/\l=orb f h n/\itF f n h=h/\l.Nodup/\∀j∈l,h<=j
theorem zlU {f:Nat->Nat} {h n:Nat} (hn:0<n) (hp:itF f n h=h):∀t,itF f t h∈orb f h n:=by
 intro t
 induction t using Nat.strongRecOn with
 | ind t ih =>
  by_cases ht:t<n
  ·exact gS.2 ⟨t,ht,rfl⟩
  ·have:=ih (t-n) (by omega)
   rw[show t=n+(t-n) from by omega,ZK,hp]
   exact this
theorem XD.step {f:Nat->Nat} {l:List Nat} (hl:XD f l) {j:Nat} (hj:j∈l) (t:Nat):itF f t j∈l:=by
 obtain⟨h,n,hn,rfl,hp,_,_⟩:=hl
 obtain⟨k,_,rfl⟩:=gS.1 hj
 rw[<-ZK]
 exact zlU hn hp _
theorem XD.eq {f:Nat->Nat} {l m:List Nat} (hl:XD f l) (hm:XD f m) {j:Nat} (h1:j∈l) (h2:j∈m):l=m:=by
 have key:∀ {l m:List Nat} {h n:Nat},0<n->l=orb f h n->itF f n h=h->XD f m->j∈l->j∈m->h∈m:=by
  intro l m h n hn e hp hm h1 h2
  rw[e]at h1
  obtain⟨k,hk,rfl⟩:=gS.1 h1
  have:=hm.step h2 (n-k)
  rw[<-ZK,show k+(n-k)=n from by omega,hp]at this
  exact this
 have hl':=hl
 have hm':=hm
 obtain⟨h,n,hn,e1,hp,hd,hle⟩:=hl
 obtain⟨g,k,hk,e2,hq,hd2,hle2⟩:=hm
 have a1:=hle2 _ (key hn e1 hp hm' h1 h2)
 have a2:=hle _ (key hk e2 hq hl' h2 h1)
 have e:h=g:=by omega
 subst e
 have hnk:∀ {n k:Nat} {m:List Nat},0<n->n<k->itF f n h=h->m=orb f h k->m.Nodup->False:=by
  intro n k m hn hlt hp e hd
  subst e
  have hd:=List.pairwise_iff_getElem.1 hd 0 n (by rw[yR];omega) (by rw[yR];exact hlt) hn
  rw[dH,dH,hp]at hd
  exact hd rfl
 have:n=k:=by
  rcases Nat.lt_trichotomy n k with h|h|h
  ·exact(hnk hn h hp e2 hd2).elim
  ·exact h
  ·exact(hnk hk h hq e1 hd).elim
 rw[e1,e2,this]
theorem XD.head {f:Nat->Nat} {l:List Nat} (hl:XD f l):∃h r,l=h::r/\∀j∈l,h<=j:=by
 obtain⟨h,n,hn,rfl,_,_,hm⟩:=hl
 obtain⟨k,rfl⟩:∃k,n=k+1:=⟨n-1,by omega⟩
 refine⟨h,orb f (f h) k,?_,hm⟩
 rw[Nat.add_comm,G8]
 rfl
noncomputable def zd5 (f:Nat->Nat) (i:Nat):List Nat:=if h:∃l,XD f l/\∃t,itF f t i∈l then h.choose else []
theorem zdb {f:Nat->Nat} {i t:Nat} {l:List Nat} (hl:XD f l) (ht:itF f t i∈l):zd5 f i=l:=by
 have h:∃l,XD f l/\∃t,itF f t i∈l:=⟨l,hl,t,ht⟩
 unfold zd5
 rw[dif_pos h]
 obtain⟨h1,s,h2⟩:=h.choose_spec
 have a:=h1.step h2 t
 have b:=hl.step ht s
 rw[<-ZK]at a b
 rw[Nat.add_comm]at b
 exact h1.eq hl a b
theorem zqL {f:Nat->Nat} {i k a at':Nat} {r:List Nat} (hd:(orb f i k).Nodup) (ha:a<k) (he:itF f a i=itF f k i) (hr:r=(orb f i k).drop a)
  (hat:at'<r.length) (hm:∀j∈r,r[at']<=j):XD f (r.drop at'++r.take at')/\itF f (a+at') i∈r.drop at'++r.take at':=by
 obtain⟨n,rfl⟩:∃n,k=a+n:=⟨k-a,by omega⟩
 have hr2:r=orb f (itF f a i) n:=by
  rw[hr,G8,List.drop_left' (yR _ _ _)]
 rw[ZK]at he
 obtain⟨h,hh⟩:∃h,h=itF f a i:=⟨_,rfl⟩
 rw[<-hh]at he hr2
 have hn:r.length=n:=by rw[hr2,yR]
 have hlt:at'<n:=by omega
 have hdr:r.Nodup:=by rw[hr];exact List.Nodup.sublist (List.drop_sublist _ _) hd
 obtain⟨m,rfl⟩:∃m,n=at'+m:=⟨n-at',by omega⟩
 have hp:itF f (at'+m) h=h:=he.symm
 have e1:r.drop at'++r.take at'=orb f (itF f at' h) (at'+m):=by
  rw[hr2,G8,List.drop_left' (yR _ _ _),List.take_left' (yR _ _ _),Nat.add_comm at' m,G8,<-ZK,hp]
 have zZ:r[at']=itF f at' h:=by
  subst hr2;exact dH _ _ _ _ _
 have hmem:∀j,j∈r.drop at'++r.take at'<->j∈r:=fun j=>by
  rw[List.mem_append,Or.comm,<-List.mem_append,List.take_append_drop]
 refine⟨⟨itF f at' h,at'+m,by omega,e1,?_,?_,?_⟩,?_⟩
 ·rw[<-ZK,Nat.add_comm at' (at'+m),ZK,hp]
 ·exact(List.perm_append_comm.trans (by rw[List.take_append_drop])).nodup_iff.2 hdr
 ·intro j hj
  rw[<-zZ]
  exact hm j ((hmem j).1 hj)
 ·rw[ZK,<-hh,hmem,<-zZ]
  exact List.getElem_mem _
theorem zkz {f:Nat->Nat} {i k a at':Nat} {r:List Nat} (hd:(orb f i k).Nodup) (ha:a<k) (he:itF f a i=itF f k i) (hr:r=(orb f i k).drop a)
  (hat:at'<r.length) (hm:∀j∈r,r[at']<=j):zd5 f i=r.drop at'++r.take at' :=
 zdb (zqL hd ha he hr hat hm).1 (zqL hd ha he hr hat hm).2
noncomputable def uA (S:wB) (i:Nat):Nat:=(S.who (xF S i).asks).getD 0
theorem zi5 {S:wB} {i m:Nat} (he:zfa S i) (h:jL S i=none) (hm:S.who (xF S i).asks=some m):jL S m=none:=by
 obtain⟨b,hb⟩:=he
 have e:xF S i=b:=by unfold xF;rw[hb];rfl
 rw[e]at hm
 cases hl:jL S m with
 | none=>rfl
 | some o =>
  exfalso
  by_cases ho:b.over=true
  ·rw[(zeA ⟨b,hb⟩ (UJ 600 hb) ho).2]at h;cases h
  ·rcases zbU hl with hk|hk
   ·rcases d7 600 hb with h1|h1
    ·exact ho h1
    ·unfold kJ at h1
     rw[hm]at h1
     simp only at h1
     rw[hl]at h1
     simp only at h1
     rw[if_pos hk]at h1;cases h1
   ·rw[(CG ⟨b,hb⟩ (UJ 600 hb) (by simpa using ho) hm hl hk).2]at h;cases h
theorem zdU (i:Nat):∀l:List (Nat × Txt),wQ (.i .i64 (i:Int)) (wtE l)=(l.find? fun p=>decide (p.1=i)).map fun p=>.s p.2
 | []=>rfl
 | p::l=>by
  have ih:=zdU i l
  simp only[wtE,List.map_cons,wQ,WV,List.find?_cons]at ih |-
  by_cases h:p.1=i
  ·simp[h]
  ·simp[h,ih]
theorem za2 {w:zV} (hw:zd8 w) {x:BdV} (hx:KN (qW w) w.acts.length [] x) {i:Nat} (hi:i∈x.ov.map Prod.fst) (hl:jL (qW w) i=none) :
  ∀k,let j:=itF (uA (qW w)) k i;j∈x.ov.map Prod.fst/\jL (qW w) j=none
 | 0=>⟨hi,hl⟩
 | k+1=>by
  obtain⟨h1,h2⟩:=za2 hw hx hi hl k
  simp only[cX]
  generalize itF (uA (qW w)) k i=j at h1 h2
  obtain⟨p,hp,rfl⟩:=List.mem_map.1 h1
  obtain⟨_,m,h3,h4⟩:=hx.st p hp h2
  have he:=(zcU hw (hx.fin p hp).1).1
  have hm:uA (qW w) p.1=m:=by unfold uA;rw[h3];rfl
  rw[hm]
  exact⟨by simpa using h4,zi5 he h2 h3⟩
theorem zin {w:zV} {x:BdV} (hx:KN (qW w) w.acts.length [] x) {j:Nat} (hj:j∈x.ov.map Prod.fst) (hl:jL (qW w) j=none) :
  x.wt.find? (fun q=>decide (q.1=j))=some (j,(xF (qW w) j).asks)/\wJ w.acts (xF (qW w) j).asks=some (uA (qW w) j):=by
 obtain⟨p,hp,rfl⟩:=List.mem_map.1 hj
 obtain⟨h1,m,h3,_⟩:=hx.st p hp hl
 refine⟨h1,?_⟩
 unfold uA
 rw[h3]
 exact h3
theorem zmX (x:Nat):∀l:List Nat,YM x l<=x/\∀y∈l,YM x l<=y:=by
 intro l
 induction l generalizing x with
 | nil=>simp[YM]
 | cons a l ih =>
  have h:=ih (Nat.min x a)
  have e:YM x (a::l)=YM (Nat.min x a) l:=rfl
  have h1:Nat.min x a<=x:=Nat.min_le_left x a
  have h2:Nat.min x a<=a:=Nat.min_le_right x a
  rw[e]
  refine⟨by omega,fun y hy=>?_⟩
  rcases List.mem_cons.1 hy with rfl|hy
  ·omega
  ·exact h.2 y hy
theorem zkq (x:Nat):∀l:List Nat,YM x l∈x::l:=by
 intro l
 induction l generalizing x with
 | nil=>simp[YM]
 | cons a l ih =>
  have h:=ih (Nat.min x a)
  have e:YM x (a::l)=YM (Nat.min x a) l:=rfl
  rw[e]
  rcases List.mem_cons.1 h with h|h
  ·rw[h]
   have:Nat.min x a=x\/Nat.min x a=a:=by
    rcases Nat.le_total x a with g|g
    ·exact .inl (Nat.min_eq_left g)
    ·exact .inr (Nat.min_eq_right g)
   rcases this with g|g<;>rw[g]<;>simp
  ·simp[h]
noncomputable def zaR (w:zV) (i:Int):List Nat :=
 if X0 w=0/\0<=i/\i<w.acts.length then if (kS (qW w) i.toNat).kind=3 then zd5 (uA (qW w)) i.toNat else [] else []
abbrev zpD:Cfg:=⟨fun _=>false,fun _=>false⟩
theorem zmw (w:zV) (hc:WkC w) (i:Int):PC Tryz.prog 13 [.av CZ (yV w),.av (.int .i64) (.i .i64 i)] (.av (.slice 3) (jX (zaR w i))):=by
 refine q7.sub (R:=fun r H'=>r=.av (.slice 3) (jX (zaR w i))) ?_ (fun r H' hr _=>⟨[],HSub.of_sub (List.nil_sublist _),hr,rfl⟩)
 obtain⟨V,hV⟩:∃V,V=zaR w i:=⟨_,rfl⟩
 rw[<-hV]
 unfold zaR at hV
 have hch:=zbJ w hc
 have hew:=cS w
 have hbg:=zbT w
 obtain⟨W,hW⟩:∃W,W=yV w:=⟨_,rfl⟩
 have hWE:W=.agg [qL w.files,.sl .no (w.acts.map wW),.sl .no (strs w.wants),.b w.keep]:=hW
 rw[<-hW]at hch hew hbg
 rw[<-hW]
 refine zov Tryz.func13 zpD fun imm0 w0=>?_
 simp (disch:=omega) [zz]
 refine qO hch rfl rfl (by simp) (by simp[qR,TV.er,hew]) ?_
 by_cases h1:X0 w=0
 rotate_left
 ·rw[if_neg (by simp[h1])]at hV
  subst hV
  simp (disch:=omega) [zz,h1,Tryz.f13,jX]
 by_cases h2:i<0
 ·rw[if_neg (by omega)]at hV
  subst hV
  simp (disch:=omega) [zz,h1,h2,Tryz.f13,jX]
 by_cases h3:(w.acts.length:Int)<=i
 ·rw[if_neg (by omega)]at hV
  subst hV
  simp (disch:=omega) [zz,h1,h2,hWE,h3,Tryz.f13,jX]
 rw[if_pos (by omega)]at hV
 obtain⟨n,rfl⟩:∃n:Nat,i=n:=⟨i.toNat,by omega⟩
 have hn:n<w.acts.length:=by omega
 have hw:=hc.ok h1
 rw[Int.toNat_natCast]at hV
 simp (disch:=omega) [zz,h1,h2,hWE,h3]
 refine qD (R:=fun r H'=>∃B O Y T,r=.av .ptr (.ptr B BdT [])/\H'=bdH B O Y T w [] ⟨[],[]⟩) [] [] (by simp) rfl (by simp[qE]) (by simp) ?_ ?_
 ·rw[<-hWE]
  simpa[TV.er,hew,q8.er_nil]using hbg
 rintro r H ⟨B,O,Y,T,rfl,rfl⟩ _
 refine⟨bdH B O Y T w [] ⟨[],[]⟩,by simpa using HSub.refl _,?_⟩
 have hHe:=YD B O Y T w [] ⟨[],[]⟩
 have hbr:=zeD B O Y T w hw n ⟨[],[]⟩ (KN.none _ _) hn
 unfold BrC at hbr
 have heo:=Q5 (kS (qW w) n)
 simp (disch:=omega) [zz]
 refine qD (bdH B O Y T w [] ⟨[],[]⟩) [] (by simp) rfl (by simp[qE]) (by simp) (by
  rw[hHe]
  exact q7.args hbr (by simp[qR,TV.er,AV.er])) ?_
 rintro r H ⟨x,rfl,hx,_,hxi,_,rfl⟩ hnd
 refine⟨bdH B O Y T w [] x,by simpa using HSub.refl _,?_⟩
 have hne:=zha (by simpa using hnd)
 by_cases hk:(kS (qW w) n).kind=3
 rotate_left
 ·rw[if_neg hk]at hV
  subst hV
  simp (disch:=omega) [zz,z7,hk,Tryz.f13,jX]
 rw[if_pos hk]at hV
 have hl:jL (qW w) n=none:=by
  rcases D1 (qW w) n with⟨_,h⟩|⟨_,h|h⟩
  ·exact h
  ·omega
  ·omega
 have hch2:∀k,itF (uA (qW w)) k n∈x.ov.map Prod.fst/\jL (qW w) (itF (uA (qW w)) k n)=none:=za2 hw hx hxi hl
 have hnx:=fun k=>zin hx (hch2 k).1 (hch2 k).2
 obtain⟨f,hf⟩:∃f,f=uA (qW w):=⟨_,rfl⟩
 rw[<-hf]at hV
 simp only[<-hf,<-cX]at hch2 hnx
 have hlt:∀k,itF f k n<w.acts.length:=fun k=>by
  obtain⟨p,hp,h⟩:=List.mem_map.1 (hch2 k).1
  rw[<-h];exact(hx.fin p hp).1
 have hroom:∀k,(orb f n k).Nodup->k<=w.acts.length:=fun k hd=>by
  have:=List.Nodup.length_le_of_subset (l₂:=List.range w.acts.length) hd fun y hy=>by
   obtain⟨j,_,rfl⟩:=gS.1 hy
   exact List.mem_range.2 (hlt j)
  rw[yR]at this;simpa using this
 have hwn:=hw.n
 have n1:=hne.bo
 have n2:=hne.by'
 have n3:=hne.bt
 have n4:=hne.oy
 have n5:=hne.ot
 have n6:=hne.yt
 have m1:¬B=O:=fun e=>n1 e.symm
 have m2:¬B=Y:=fun e=>n2 e.symm
 have m3:¬B=T:=fun e=>n3 e.symm
 have m4:¬O=Y:=fun e=>n4 e.symm
 have m5:¬O=T:=fun e=>n5 e.symm
 have m6:¬Y=T:=fun e=>n6 e.symm
 have hHe2:=YD B O Y T w [] x
 have hmk:=fun p=>zdw w.acts (by omega) (fun a ha=>by have:=(hw.a a ha).b.bo;omega) p
 have hea:=ZT w.acts
 simp (disch:=omega) [zz,z7,hk]
 refine AT.loop' (α:=Nat) (fun k=>St.of [(1,.av (.int .i64) (.i .i64 (itF f k n:Nat))),(2,.loc 2 []),(5,.av .ptr (.ptr B BdT [])),(6,.av (.slice 3) (.sl (tkG 37 k) ((orb f n k).map wH)))] [(2,(CZ,W))] (fun j=>if j=37 then k else 0) (bdH B O Y T w [] x))
  (fun k=>k<=w.acts.length/\(orb f n k).Nodup) (fun k=>w.acts.length+1-k) 0 ?_ ⟨by omega,by simp[orb]⟩ ?_
 ·have h0:orb f n 0=[]:=rfl
  have h00:itF f 0 n=n:=rfl
  apply Le.of<;>simp[zR,qI,z6,tkG,h0,h00,hWE,yR]<;>try omega
 rintro k ⟨hkn,hd⟩ KL hN hE
 have hcn:=zcN (orb f n k) (itF f k n) (by rw[yR];omega)
 have hol:=yR f n k
 refine zrd zpD ?_
 simp (disch:=omega) [zz]
 refine qO hcn rfl rfl (by simp[qE]) (by simp[qR,TV.er,AV.er,jX,AV.ers_eq,Function.comp_def,wH]) ?_
 by_cases hin:itF f k n∈orb f n k
 rotate_left
 ·have hd':(orb f n (k+1)).Nodup:=by
   rw[G0,List.nodup_append]
   exact⟨hd,by simp,fun a ha b hb e=>hin (by rw[List.mem_singleton.1 hb]at e;exact e▸ha)⟩
  have hk1:=hroom (k+1) hd'
  simp (disch:=omega) [zz,hin]
  refine xQ (by simp) (by simp;omega) (by simp;omega) (by simp) (by simp) ?_
  obtain⟨h5,h6⟩:=hnx k
  have hwf:=zdU (itF f k n) x.wt
  rw[h5]at hwf
  simp only[Option.map_some]at hwf
  have hmk1:=hmk (xF (qW w) (itF f k n)).asks
  rw[h6]at hmk1
  simp (disch:=omega) [zz,hWE,KJ,n3,m3,n5,m5,n6,m6,hwf]
  (repeat with_reducible refine om ?_)
  refine kP hmk1 rfl rfl (by simp) (by simp[qR,coC,TV.er,AV.er,gD,jP]) ?_
  simp (disch:=omega) [zz]
  (repeat with_reducible refine om ?_)
  have hos:=G0 f n k
  have his:=cX f k n
  refine hN _ (k+1) ?_ ⟨hk1,hd'⟩ (by omega)
  rw[his,hos]
  apply Le.of<;>simp[zR,qI,z6,hWE,KJ,wH]<;>try omega
  all_goals (intro j;by_cases hj:j=37<;>simp[hj])
 ·obtain⟨a,hak,hae⟩:=gS.1 hin
  have hix:=GN (orb f n k) (itF f k n) (by rw[yR];omega)
  rcases ZS (fun y=>decide (y=itF f k n)) (orb f n k)with⟨_,hall⟩|⟨a,ha,he,hs,_⟩
  ·exact absurd (hall _ hin) (by simp)
  rw[he]at hix
  rw[yR]at ha
  have has:itF f a n=itF f k n:=by
   have:=dH f n k a (by rw[yR];exact ha)
   rw[this]at hs;simpa using hs
  obtain⟨r,hr⟩:∃r,r=(orb f n k).drop a:=⟨_,rfl⟩
  have hrl:r.length=k-a:=by rw[hr,List.length_drop,yR]
  obtain⟨y,r',hry⟩:∃y r',r=y::r':=by
   cases hrr:r with
   | nil=>rw[hrr]at hrl;simp at hrl;omega
   | cons y r'=>exact⟨y,r',rfl⟩
  have hmn:=zm9 y r' (by have:=congrArg List.length hry;simp at this;omega)
  have hmm:=zkq y r'
  have hml:=zmX y r'
  rw[<-hry]at hmn hmm
  obtain⟨mn,hmn2⟩:∃mn,mn=YM y r':=⟨_,rfl⟩
  rw[<-hmn2]at hmn hmm hml
  have hix2:=GN r mn (by omega)
  rcases ZS (fun y=>decide (y=mn)) r with⟨_,hall⟩|⟨c,hc2,he2,hs2,_⟩
  ·exact absurd (hall _ hmm) (by simp)
  rw[he2]at hix2
  have hcm:r[c]=mn:=by simpa using hs2
  have hVr:zd5 f n=r.drop c++r.take c:=zkz hd ha has hr hc2 fun j hj=>by
   rw[hcm]
   rw[hry]at hj
   rcases List.mem_cons.1 hj with rfl|hj
   ·exact hml.1
   ·exact hml.2 j hj
  have hcat:=zfb [r.drop c,r.take c] (by simp;omega) (by simp;omega) (by simp)
  have hfl:[r.drop c,r.take c].flatten=r.drop c++r.take c:=by simp
  rw[hfl,<-hVr,<-hV]at hcat
  have hki:(a:Int)<=k:=by omega
  have hki0:¬(a:Int)<0:=by omega
  simp (disch:=omega) [zz,hin]
  refine hE _ _ (by simp) ?_
  simp (disch:=omega) [zz]
  refine qO hix rfl rfl (by simp[qE]) (by simp[qR,TV.er,AV.er,jX,AV.ers_eq,Function.comp_def,wH]) ?_
  have hcut:List.drop a (List.take k (List.map wH (orb f n k)))=r.map wH:=by
   rw[List.take_of_length_le (by simp[yR]),hr,List.map_drop]
  simp (disch:=omega) [zz,hol,hki,hki0,hcut]
  refine qO hmn rfl rfl (by simp[qE]) (by simp[qR,TV.er,AV.er,jX,AV.ers_eq,Function.comp_def,wH]) ?_
  simp (disch:=omega) [zz]
  refine qO hix2 rfl rfl (by simp[qE]) (by simp[qR,TV.er,AV.er,jX,AV.ers_eq,Function.comp_def,wH]) ?_
  have hci:(c:Int)<=r.length:=by omega
  have hci0:¬(c:Int)<0:=by omega
  have hd1:List.drop c (List.take r.length (List.map wH r))=(r.drop c).map wH:=by
   rw[List.take_of_length_le (by simp),List.map_drop]
  have hd2:List.take c (List.map wH r)=(r.take c).map wH:=List.map_take.symm
  have hve:=zdf V
  have hen:∀n,(wH n).er=wH n:=fun _=>rfl
  have hvs:jX V=.sl .no (V.map wH):=rfl
  simp (disch:=omega) [zz,hci,hci0]
  refine kP hcat rfl rfl (by simp) (by rw[hd1,hd2];simp[qR,coC,TV.er,AV.er,AV.ers,jX,AV.ers_eq,Function.comp_def,hen]) ?_
  simp (disch:=omega) [zz]
  (repeat with_reducible refine om ?_)
  simp (disch:=omega) [zz,Tryz.f13,hve]
end
end Go.Proofs.YtdkieabmeiojjaaGreatDoor
