/- The laws of what is kept: how much is looked at; the program. No condition. -/
import Derived.Test.YtognnffjdckalaaGreatDoorKE2ToKE5
import Derived.Test.YtognnffjdckalaaGreatDoorKR2ToKL4
set_option linter.unusedSimpArgs false
set_option linter.unusedVariables false
set_option linter.unusedSectionVars false
set_option maxHeartbeats 64000000
set_option maxRecDepth 100000
namespace Go.Proofs.YtognnffjdckalaaGreatDoor
open Go Go.Ab
open Classical
section
variable [Sel] [SelPow] [SelErr]
structure WA where
 key:Int
 reads:List yH
 outs:List zV
 odd:Int
def y4 (o:WA):AV:=.agg [.i .u8 o.key,qE o.reads,zI o.outs,.i .u8 o.odd]
structure V4 where
 kind:Int
 n:Int
 one:WA
 picks:List Int
def jU (a:V4):AV:=.agg [.i .i64 a.kind,.i .i64 a.n,y4 a.one,JX a.picks]
noncomputable abbrev zhI:TyD:=q8 Tryz.prog 46
noncomputable abbrev zsY:TyD:=q8 Tryz.prog 49
def szO (l:List zV):Nat:=(l.map fun f=>f.path.length+f.data.length+1).sum
def szR (l:List yH):Nat:=(l.map fun r=>r.path.length+10).sum
def szA (a:V4):Nat:=1+a.picks.length+szO a.one.outs+szR a.one.reads
def JR (l:List V4):Nat:=(l.map szA).sum
theorem znZ (l:List zV) (i:Nat) (h:i<l.length):szO (l.take (i+1))=szO (l.take i)+(l[i].path.length+l[i].data.length+1):=by
 rw[List.take_succ_eq_append_getElem h];simp only[szO,List.map_append,List.sum_append,List.map_cons,List.map_nil,List.sum_cons,List.sum_nil,Nat.add_zero]
theorem zlh (l:List yH) (i:Nat) (h:i<l.length):szR (l.take (i+1))=szR (l.take i)+(l[i].path.length+10):=by
 rw[List.take_succ_eq_append_getElem h];simp only[szR,List.map_append,List.sum_append,List.map_cons,List.map_nil,List.sum_cons,List.sum_nil,Nat.add_zero]
theorem CS (l:List V4) (i:Nat) (h:i<l.length):JR (l.take (i+1))=JR (l.take i)+szA l[i]:=by
 rw[List.take_succ_eq_append_getElem h];simp only[JR,List.map_append,List.sum_append,List.map_cons,List.map_nil,List.sum_cons,List.sum_nil,Nat.add_zero]
theorem XX {α:Type} (f:α->Nat) (l:List α) (i:Nat):((l.take i).map f).sum<=(l.map f).sum:=by
 conv=>rhs;rw[<-List.take_append_drop i l,List.map_append,List.sum_append]
 omega
theorem pG (l:List zV):l.length<=szO l:=by
 induction l with
 | nil=>simp
 | cons f l ih=>simp only[szO,List.map_cons,List.sum_cons,List.length_cons]at ih |-;omega
theorem zjn (l:List yH):l.length<=szR l:=by
 induction l with
 | nil=>simp
 | cons f l ih=>simp only[szR,List.map_cons,List.sum_cons,List.length_cons]at ih |-;omega
theorem zmD (l:List V4):l.length<=JR l:=by
 induction l with
 | nil=>simp
 | cons f l ih=>simp only[JR,szA,List.map_cons,List.sum_cons,List.length_cons]at ih |-;omega
def zaa (l:List V4):Bool:=decide (2500<JR l)||decide (25<l.length)
theorem zd8 (o:WA):(y4 o).er=y4 o:=by simp[y4,AV.er,AV.ers,KT]
theorem zfX (l:List Int):(JX l).er=JX l:=by simp[JX,AV.er,AV.ers_eq,Function.comp_def]
theorem zhC (a:V4):(jU a).er=jU a:=by simp[jU,AV.er,AV.ers,zd8,zfX]
theorem zgH (l:List V4) (k:Nat) (h:k<l.length):(l.map jU)[k]?=some (jU l[k]):=by simp[List.getElem?_eq_getElem h]
theorem zkZ (l:List yH) (k:Nat) (h:k<l.length):(l.map qV)[k]?=some (qV l[k]):=by simp[List.getElem?_eq_getElem h]
theorem zjV (l:List V4) (hl:JR l<=1000000000000000):PC Tryz.prog 5 [.av (.slice 49) (.sl .no (l.map jU))] (.av .bool (.b (zaa l))):=by
 have hll:=zmD l
 refine zow Tryz.func5 cf0 fun imm0 w0=>?_
 simp (disch:=omega) [zz]
 refine AT.loop' (α:=Nat) (fun i=>St.of [(0,.av (.slice 49) (.sl .no (l.map jU))),(3,.av (.int .i64) (.i .i64 (JR (l.take i)))),(10,.av (.slice 49) (.sl .no (l.map jU))),(11,.av (.int .i64) (.i .i64 l.length)),(12,.av (.int .i64) (.i .i64 i))] [] (fun _=>0) [])
  (fun i=>i<=l.length) (fun i=>l.length-i) 0 ?_ ?_ ?_
 ·apply Le.of<;>simp[le9,JR]<;>try omega
 ·simp
 rintro i hi KL hN hE
 refine zrd cf0 ?_
 by_cases hlt:i<l.length
 ·have hlt':(i:Int)<l.length:=by omega
  have hga:=zgH l i hlt
  have hta:=CS l i hlt
  have hpa:=XX szA l (i+1)
  have hpa2:JR (l.take (i+1))<=JR l:=hpa
  obtain⟨a,ha⟩:∃a,a=l[i]:=⟨_,rfl⟩
  rw[<-ha]at hga hta
  have hsz:szA a=1+a.picks.length+szO a.one.outs+szR a.one.reads:=rfl
  have hol:=pG a.one.outs
  have hrl:=zjn a.one.reads
  simp (disch:=omega) [zz,hlt',hga,jU,y4,JX,zI,qE]
  obtain⟨S,hS⟩:∃S,S=JR (l.take i):=⟨_,rfl⟩
  rw[<-hS]at hta |-
  refine AT.loop' (α:=Nat) (fun j=>St.of [(0,.av (.slice 49) (.sl .no (l.map jU))),(3,.av (.int .i64) (.i .i64 (S+(1+a.picks.length)+szO (a.one.outs.take j)))),(5,.loc 5 []),(10,.av (.slice 49) (.sl .no (l.map jU))),(11,.av (.int .i64) (.i .i64 l.length)),(12,.av (.int .i64) (.i .i64 i)),(24,.av (.slice 73) (.sl .no (a.one.outs.map zC))),(25,.av (.int .i64) (.i .i64 a.one.outs.length)),(26,.av (.int .i64) (.i .i64 j))] [(5,(zsY,jU a))] (fun _=>0) [])
   (fun j=>j<=a.one.outs.length) (fun j=>a.one.outs.length-j) 0 ?_ ?_ ?_
  ·apply Le.of<;>simp[le9,szO,jU,y4,JX,zI,qE]<;>try omega
  ·simp
  rintro j hj KL2 hN2 hE2
  refine zrd cf0 ?_
  by_cases hlt2:j<a.one.outs.length
  ·have hlt2':(j:Int)<a.one.outs.length:=by omega
   have hgf:=WP a.one.outs j hlt2
   have htf:=znZ a.one.outs j hlt2
   have hpf:=XX (fun f:zV=>f.path.length+f.data.length+1) a.one.outs (j+1)
   have hpf2:szO (a.one.outs.take (j+1))<=szO a.one.outs:=hpf
   obtain⟨f,hf⟩:∃f,f=a.one.outs[j]:=⟨_,rfl⟩
   rw[<-hf]at hgf htf
   simp (disch:=omega) [zz,hlt2',hgf,zC]
   refine hN2 _ (j+1) ?_ (by omega) (by omega)
   apply Le.of<;>simp[le9,htf]<;>try omega
  ·have hlt2':¬(j:Int)<a.one.outs.length:=by omega
   have htk:a.one.outs.take j=a.one.outs:=List.take_of_length_le (by omega)
   rw[htk]
   simp (disch:=omega) [zz,hlt2']
   refine hE2 _ _ (by simp) ?_
   simp (disch:=omega) [zz,jU,y4,qE]
   refine AT.loop' (α:=Nat) (fun j=>St.of [(0,.av (.slice 49) (.sl .no (l.map jU))),(3,.av (.int .i64) (.i .i64 (S+(1+a.picks.length)+szO a.one.outs+szR (a.one.reads.take j)))),(10,.av (.slice 49) (.sl .no (l.map jU))),(11,.av (.int .i64) (.i .i64 l.length)),(12,.av (.int .i64) (.i .i64 i)),(43,.av (.slice 82) (.sl .no (a.one.reads.map qV))),(44,.av (.int .i64) (.i .i64 a.one.reads.length)),(45,.av (.int .i64) (.i .i64 j))] [] (fun _=>0) [])
    (fun j=>j<=a.one.reads.length) (fun j=>a.one.reads.length-j) 0 ?_ ?_ ?_
   ·apply Le.of<;>simp[le9,szR]<;>try omega
   ·simp
   rintro k hk KL3 hN3 hE3
   refine zrd cf0 ?_
   by_cases hlt3:k<a.one.reads.length
   ·have hlt3':(k:Int)<a.one.reads.length:=by omega
    have hgf:=zkZ a.one.reads k hlt3
    have htf:=zlh a.one.reads k hlt3
    have hpf:=XX (fun r:yH=>r.path.length+10) a.one.reads (k+1)
    have hpf2:szR (a.one.reads.take (k+1))<=szR a.one.reads:=hpf
    obtain⟨f,hf⟩:∃f,f=a.one.reads[k]:=⟨_,rfl⟩
    rw[<-hf]at hgf htf
    simp (disch:=omega) [zz,hlt3',hgf,qV]
    refine hN3 _ (k+1) ?_ (by omega) (by omega)
    apply Le.of<;>simp[le9,htf]<;>try omega
   ·have hlt3':¬(k:Int)<a.one.reads.length:=by omega
    have htk3:a.one.reads.take k=a.one.reads:=List.take_of_length_le (by omega)
    rw[htk3]
    simp (disch:=omega) [zz,hlt3']
    refine hE3 _ _ (by simp) ?_
    simp (disch:=omega) [zz]
    refine hN _ (i+1) ?_ (by omega) (by omega)
    apply Le.of<;>simp[le9,hta,hsz]<;>try omega
 ·have hlt':¬(i:Int)<l.length:=by omega
  have htk:l.take i=l:=List.take_of_length_le (by omega)
  rw[htk]
  simp (disch:=omega) [zz,hlt']
  refine hE _ _ (by simp) ?_
  by_cases h1:2500<JR l
  ·have h1':(2500:Int)<JR l:=by omega
   simp (disch:=omega) [zz,h1',h1,Tryz.f5,zaa]
  ·have h1':¬(2500:Int)<JR l:=by omega
   have h2:((25:Int)<l.length)<->25<l.length:=by omega
   simp (disch:=omega) [zz,h1',h1,h2,Tryz.f5,zaa]
def kdI (n:Int):Dig:=UInt8.ofNat n.toNat::List.replicate 31 0
noncomputable def trO (o:WA):qD:=⟨kdI (o.key % 4),o.reads,o.outs.map Q0⟩
noncomputable def zqc (o:WA):TV:=.tup [(TrT,q5 (trO o)),(.slice 73,zI o.outs)]
theorem ziI (n:Int) (h0:0<=n) (h:n<256):AV.agg (.i .u8 n::List.replicate 31 (.i .u8 0))=qK (kdI n):=by
 have:((UInt8.ofNat n.toNat).toNat:Int)=n:=by
  rw[UInt8.toNat_ofNat'];omega
 simp only[qK,kdI,List.map_cons,this,List.map_replicate]
 rfl
def ZC (o:WA):List zV:=if o.odd=1 then o.outs.take (o.outs.length-1) else if o.odd=2 then o.outs.modify (o.outs.length-1) (fun f=>⟨f.path,f.data++[120]⟩) else o.outs
noncomputable def zb3 (o:WA):TV:=.tup [(TrT,q5 (trO o)),(.slice 73,zI (ZC o))]
theorem cH {α:Type} (f:α->AV) (b m:Nat) (e:TypeId) (xs:List AV) (h:∀x,fzA b m e xs (f x)=f x):∀l:List α,xP b m e xs (l.map f)=l.map f
 | []=>rfl
 | x::l=>by simp only[List.map_cons,xP,h,cH f b m e xs h l]
theorem zeI (b m:Nat) (e:TypeId) (xs:List AV) (d:Dig):fzA b m e xs (qK d)=qK d:=by
 simp only[qK,fzA]
 exact congrArg AV.agg (cH _ b m e xs (fun x=>rfl) d)
theorem znt (b m:Nat) (e:TypeId) (xs:List AV) (t:qD):fzA b m e xs (q5 t)=q5 t:=by
 have h1:=cH qV b m e xs (fun r=>by simp[qV,fzA,xP,zeI]) t.reads
 have h2:=cH qS b m e xs (fun r=>by simp[qS,fzA,xP,zeI]) t.outs
 simp only[q5,qE,qF,fzA,xP,zeI]
def zfb (o:WA) (r:TV) (H':q7):Prop:=∃b cap n X H'',r=.tup [(TrT,q5 (trO o)),(.slice 73,.msl b 73 0 n cap)]/\n<=cap/\X.take n=(ZC o).map zC/\H'=(b,.var (.arr cap 73) (.agg X))::H''
theorem zfb.fin {o:WA} {b cap n:Nat} {X:List AV} {H'':q7} (hn:n<=cap) (hX:(AV.erks X).take n=(ZC o).map zC) :
  ∃H0,zfb o (.tup [(TrT,q5 (trO o)),(.slice 73,.msl b 73 0 n cap)]) H0/\List.Perm ((b,.var (.arr cap 73) (.agg (AV.erks X)))::H'') H0:=⟨_,⟨b,cap,n,_,H'',rfl,hn,hX,rfl⟩,List.Perm.refl _⟩
def StO (o:WA) (b:Nat) (q:Dig) (s:St):Prop:=∃b3 cap X,b3≠b/\o.outs.length<=cap/\X.take o.outs.length=o.outs.map zC/\X.length=cap/\
 Le s (St.of [(1,.av .ptr (.ptr b zhI [])),(2,.loc 2 []),(4,.loc 4 []),(5,.av (.slice 73) (.msl b3 73 0 o.outs.length cap)),(21,.av (.slice 73) (.sl .no (o.outs.map zC))),(22,.av (.int .i64) (.i .i64 o.outs.length)),(23,.av (.int .i64) (.i .i64 0))] [(2,(TrT,.agg [qK kZ,.sl .full [],.sl .full []])),(4,(TrT,.agg [qK q,qE o.reads,.sl (tkR 36 0) []]))] (fun j=>if j=36 then 0 else 0) [(b3,.var (.arr cap 73) (.agg X)),(b,.var zhI (y4 o))])
abbrev zrS:Cfg:=⟨fun n=>n==1,fun n=>n==16||n==37||n==1000006||n==2000033⟩
theorem zpz (o:WA) (hk:0<=o.key) (hk2:o.key<256) (hol:o.outs.length<=1000000000) (hd:∀f∈o.outs,f.data.length<=1000000000):q6 Tryz.prog 12 [.av zhI (y4 o)] [] (zfb o):=by
 refine q6.sub (R:=fun r H'=>∃H0,zfb o r H0/\H'.Perm H0) ?_ (fun r H' hr _=>by
  obtain⟨H0,h1,h2⟩:=hr
  exact⟨H0,HSub.of_perm h2,h1⟩)
 refine zov Tryz.func12 zrS fun imm0 w0=>?_
 have htm:o.key.tmod 4=o.key % 4:=Int.tmod_eq_emod_of_nonneg hk
 have hke:=ziI (o.key % 4) (by omega) (by omega)
 simp only[List.reduceReplicate]at hke
 obtain⟨q,hq⟩:∃q,q=kdI (o.key % 4):=⟨_,rfl⟩
 rw[<-hq]at hke
 have hoe:zI o.outs=.sl .no (o.outs.map zC):=rfl
 (simp (maxSteps:=2000000) (disch:=first|omega|assumption) [zz,-List.reduceReplicate,y4])
 intro b b2 hb
 simp (disch:=omega) [zz,hoe,htm,hke,hb]
 (repeat with_reducible refine om ?_)
 refine(fun(h:∀s,StO o b q s->AT _ _ _ s)=>⟨fun h0=>h _ ?a,fun h0 b3 cap hb4 hb5 hcap=>?b⟩) ?c
 case a =>
  refine⟨b2,0,[],hb,by simp[h0],by simp[h0],rfl,?_⟩
  apply Le.of<;>simp[le9,zY,y4,hoe,h0,tkR]<;>try omega
  all_goals rfl
 case b =>
  simp (disch:=omega) [zz,hb5,hoe]
  (repeat with_reducible refine om ?_)
  refine h _ ⟨b3,cap,o.outs.map zC++List.replicate (cap-o.outs.length) (.agg [.s [],.s []]),hb5,hcap,by simp,by simp;omega,?_⟩
  apply Le.of<;>simp[le9,zY,y4,hoe,tkR]<;>try omega
 case c =>
 rintro s ⟨b3,cap,X,hb3,hcap,hX,hXl,hle⟩
 obtain⟨G,hG⟩:∃G:Nat->List AV,G=fun i=>((o.outs.take i).map Q0).map qS:=⟨_,rfl⟩
 have hG0:G 0=[]:=by rw[hG];rfl
 have hGn:G o.outs.length=(o.outs.map Q0).map qS:=by rw[hG];simp only[List.take_length]
 have hGl:∀i,i<=o.outs.length->(G i).length=i:=fun i h=>by rw[hG];simp;omega
 have hGs:∀i (h:i<o.outs.length),G (i+1)=G i++[qS (Q0 o.outs[i])]:=fun i h=>by rw[hG];simp only[List.take_succ_eq_append_getElem h,List.map_append,List.map_cons,List.map_nil]
 obtain⟨N,hN0⟩:∃N,N=o.outs.length:=⟨_,rfl⟩
 rw[<-hN0]at hcap hX hle hGn hGl hol
 refine AT.loop' (α:=Nat) (fun i=>St.of [(1,.av .ptr (.ptr b zhI [])),(2,.loc 2 []),(4,.loc 4 []),(5,.av (.slice 73) (.msl b3 73 0 N cap)),(21,.av (.slice 73) (.sl .no (o.outs.map zC))),(22,.av (.int .i64) (.i .i64 N)),(23,.av (.int .i64) (.i .i64 i))] [(2,(TrT,.agg [qK kZ,.sl .full [],.sl .full []])),(4,(TrT,.agg [qK q,qE o.reads,.sl (tkR 36 i) (G i)]))] (fun j=>if j=36 then i else 0) [(b3,.var (.arr cap 73) (.agg X)),(b,.var zhI (y4 o))])
  (fun i=>i<=N) (fun i=>N-i) 0 ?_ ?_ ?_
 ·rw[hG0];exact hle
 ·simp
 clear hle hoe
 rintro i hi KL hN hE
 refine zrd zrS ?_
 by_cases hlt:i<N
 ·have hlt':(i:Int)<N:=by omega
  have hlt3:i<o.outs.length:=by omega
  have hgf:=WP o.outs i hlt3
  have hml:=hGl i hi
  have hmt:=hGs i hlt3
  have hdl:=hd _ (List.getElem_mem hlt3)
  obtain⟨f,hf⟩:∃f,f=o.outs[i]:=⟨_,rfl⟩
  rw[<-hf]at hgf hmt hdl
  have hsum:=pJ f.data (by omega)
  have hms:qS (Q0 f)=.agg [.s f.path,qK (sha f.data)]:=rfl
  rw[hms]at hmt
  cases i with
  | zero =>
   rw[hG0]at hmt
   simp only[List.nil_append,Nat.zero_add]at hmt
   simp (disch:=omega) [zz,hG0,hlt',hlt,hlt3,hgf,zC,tkR]
   refine j6.of [0,1,2,3,4,5,6,7,8,9,10,11] [0,1,2,3] (by kernel_rfl) ?_
   simp (disch:=omega) [zz]
   (repeat with_reducible refine om ?_)
   refine zcv hsum ?_
   simp (disch:=omega) [zz,qQ]
   (repeat with_reducible refine om ?_)
   refine hN _ 1 ?_ (by omega) (by omega)
   apply Le.of<;>simp[le9,tkR,hmt]<;>try omega
   all_goals (intro j;by_cases hj:j=36<;>simp_all)
  | succ i =>
   have hlt2:(i:Int)+1<N:=by omega
   have hlt4:(i:Int)+1<o.outs.length:=by omega
   have hge:(0:Int)<=(i:Int)+1:=by omega
   simp (disch:=omega) [zz,hlt2,hlt4,hlt,hlt3,hgf,zC,tkR,hml,hge]
   refine j6.of [0,1,2,3,4,5,6,7,8,9,10,11] [0,1,2,3] (by kernel_rfl) ?_
   simp (disch:=omega) [zz,hml]
   (repeat with_reducible refine om ?_)
   refine zcv hsum ?_
   simp (disch:=omega) [zz,qQ,hml]
   (repeat with_reducible refine om ?_)
   refine hN _ (i+2) ?_ (by omega) (by omega)
   apply Le.of<;>simp[le9,tkR,hmt]<;>try omega
   all_goals (intro j;by_cases hj:j=36<;>simp_all)
 have hie:i=N:=by omega
 subst hie
 have hlt':¬(i:Int)<i:=by omega
 have htE:q5 (trO o)=.agg [qK q,qE o.reads,.sl .no (G i)]:=by rw[hq,hGn];rfl
 have he1:AV.ers (G i)=G i:=by rw[hGn];simp[AV.ers_eq,Function.comp_def]
 simp (disch:=omega) [zz,hlt']
 refine hE _ _ (by simp) ?_
 clear hE hN
 have hb3':¬b3=b:=hb3
 have hb4:¬b=b3:=fun e=>hb3 e.symm
 have hk1:∀l:List zV,(l.map zC).map AV.erk=l.map zC:=fun l=>by simp[Function.comp_def,zC,AV.erk,AV.erks]
 have hkX:(AV.erks X).take i=o.outs.map zC:=by rw[AV.erks_eq,<-List.map_take,hX,hk1]
 by_cases h0:0<i
 ·have h0':(0:Int)<i:=by omega
  by_cases h1:o.odd=1
  ·have hou:ZC o=o.outs.take (i-1):=by rw[hN0];unfold ZC;rw[if_pos h1]
   simp (disch:=omega) [zz,h0,h0',h1,hb3',hb4,y4,hcap]
   simp (disch:=omega) [zz,Tryz.f12,htE,he1]
   refine⟨by omega,by omega,?_⟩
   rw[<-htE]
   refine zfb.fin (by omega) ?_
   rw[hou,List.map_take,<-hkX,List.take_take,Nat.min_eq_left (by omega)]
  ·by_cases h2:o.odd=2
   ·have hou:ZC o=o.outs.modify (i-1) (fun f=>⟨f.path,f.data++[120]⟩):=by rw[hN0];unfold ZC;rw[if_neg h1,if_pos h2]
    have hi1:i-1<o.outs.length:=by omega
    have hXi:i-1<X.length:=by omega
    have hx:X[i-1]=.agg [.s o.outs[i-1].path,.s o.outs[i-1].data]:=by
     have e1:X[i-1]=(X.take i)[i-1]'(by rw[List.length_take];omega):=by rw[List.getElem_take]
     rw[e1]
     simp only[hX,List.getElem_map];rfl
    have hdl:=hd _ (List.getElem_mem hi1)
    obtain⟨f,hf⟩:∃f,f=o.outs[i-1]:=⟨_,rfl⟩
    rw[<-hf]at hx hdl
    simp (disch:=omega) [zz,h0,h0',h1,h2,hb3',hb4,y4,hcap,hx,hXi]
    refine⟨by omega,by omega,by omega,by omega,by omega,?_⟩
    simp (disch:=omega) [zz,Tryz.f12,htE,he1]
    rw[<-htE]
    refine zfb.fin hcap ?_
    rw[hou,AV.erks_eq,List.map_set,List.take_set,<-AV.erks_eq,hkX]
    refine List.ext_getElem (by simp) fun k h3 h4=>?_
    simp only[List.getElem_set,List.getElem_map,List.getElem_modify]
    split
    ·rename_i hk3
     simp[<-hk3,<-hf,zC,AV.erk,AV.erks]
    ·rfl
   ·have hou:ZC o=o.outs:=by unfold ZC;rw[if_neg h1,if_neg h2]
    simp (disch:=omega) [zz,h0,h0',h1,h2,hb3',hb4,y4]
    simp (disch:=omega) [zz,Tryz.f12,htE,he1]
    rw[<-htE]
    refine zfb.fin hcap ?_
    rw[hou,hkX]
 ·have h0':i=0:=by omega
  subst h0'
  have hon:o.outs=[]:=List.eq_nil_of_length_eq_zero hN0.symm
  have hou:ZC o=[]:=by
   unfold ZC;rw[hon];split
   ·rfl
   ·split<;>rfl
  simp (disch:=omega) [zz,hb3',hb4,y4]
  simp (disch:=omega) [zz,Tryz.f12,htE,he1]
  rw[<-htE]
  refine zfb.fin (by omega) ?_
  rw[hou];rfl
theorem ziH (o:WA) (hk:0<=o.key) (hk2:o.key<256) (hol:o.outs.length<=1000000000) (hd:∀f∈o.outs,f.data.length<=1000000000):PC Tryz.prog 12 [.av zhI (y4 o)] (zb3 o):=by
 refine q6.sub (R:=fun r H'=>r=zb3 o) ?_ (fun r H' hr _=>⟨[],HSub.of_sub (List.nil_sublist _),hr,rfl⟩)
 refine(zpz o hk hk2 hol hd).freeze laid ?_
 rintro r H' ⟨b,cap,n,X,H'',rfl,hn,hX,rfl⟩ _
 refine .inl ⟨b,cap,73,X,H'',List.Perm.refl _,?_⟩
 simp[V2,fzA,znt,hn,hX,zb3,zI]
theorem zrb (o:WA) (hk:0<=o.key) (hk2:o.key<256) (hol:o.outs.length<=1000000000) (hd:∀f∈o.outs,f.data.length<=1000000000) (ho:o.odd=0):PC Tryz.prog 12 [.av zhI (y4 o)] (zqc o):=by
 have h:=ziH o hk hk2 hol hd
 have:ZC o=o.outs:=by unfold ZC;rw[ho];rfl
 unfold zb3 at h
 rw[this]at h
 exact h
abbrev ItV:=qD × List zV
structure Sur (xs:List ItV) (c:Nat->Bool) (M:MV):Prop where
 yes:∀i (h:i<xs.length),c i=true->getD M.L xs[i].1.key=[xs[i].1]/\∀f∈xs[i].2,kE (sha f.data) M.bl=true
 no:∀i (h:i<xs.length),c i=false->getD M.L xs[i].1.key=[]
 keys:∀q,getD M.L q≠[]->∃i,∃h:i<xs.length,q=xs[i].1.key
 met:∀d p,M.bl.find? (fun p=>decide (p.1=d))=some p->p.1=sha p.2/\∃x∈xs,∃f∈x.2,f.data=p.2
theorem Sur.eq {xs:List ItV} {c:Nat->Bool} {M M':MV} (h:Sur xs c M) (e:MEq M M'):Sur xs c M':=by
 refine⟨fun i hi hc=>?_,fun i hi hc=>?_,fun q hq=>?_,fun d p hp=>?_⟩
 ·rw[<-e.g]
  obtain⟨h1,h2⟩:=h.yes i hi hc
  grind [cQ]
 ·rw[<-e.g];exact h.no i hi hc
 ·rw[<-e.g]at hq;exact h.keys q hq
 ·rw[<-e.f]at hp;exact h.met d p hp
theorem zlj {d e:Dig} {s:List UInt8} {bl:BlL} (h:kE e bl=true):kE e (kY d s bl)=true:=by
 simp_all[kE,KR]
theorem Sur.put {xs:List ItV} {c:Nat->Bool} {M:MV} (h:Sur xs c M) {x:ItV} (hx:x∈xs) {f:zV} (hf:f∈x.2):Sur xs c ⟨M.L,kY (sha f.data) f.data M.bl⟩:=by
 refine⟨fun i hi hc=>?_,h.no,h.keys,fun d p hp=>?_⟩
 ·obtain⟨h1,h2⟩:=h.yes i hi hc
  simp_all[zlj]
 ·simp only[KR]at hp
  split at hp
  ·exact h.met d p hp
  grind
theorem Sur.puts {xs:List ItV} {c:Nat->Bool} {x:ItV} (hx:x∈xs):∀ {l:List zV} {M:MV},Sur xs c M->(∀f∈l,f∈x.2)->Sur xs c ⟨M.L,YZ l M.bl⟩
 | [],M,h,_=>h
 | f::l,M,h,hl=>by
  exact Sur.puts hx (l:=l) (M:=⟨M.L,kY (sha f.data) f.data M.bl⟩) (h.put hx (hl f (by simp))) fun g hg=>hl g (List.mem_cons_of_mem _ hg)
theorem zsg (t:qD) (ts:List qD):yG 1 t ts=[t]:=by simp[yG]
theorem Sur.add {xs:List ItV} {c:Nat->Bool} {M:MV} (h:Sur xs c M) (hk:(xs.map fun x=>x.1.key).Nodup) {i:Nat} (hi:i<xs.length) (hc:qY xs[i].1=0) (hb:∀f∈xs[i].2,kE (sha f.data) M.bl=true) :
  Sur xs (fun j=>decide (j=i)||c j) ⟨kU 1 M.L xs[i].1,M.bl⟩:=by
 have hne:∀j (hj:j<xs.length),j≠i->xs[j].1.key≠xs[i].1.key:=by
  intro j hj hji e
  have h1:(xs.map fun x=>x.1.key)[j]'(by simp_all)=(xs.map fun x=>x.1.key)[i]'(by simp_all):=by simpa using e
  grind [List.getElem_inj]
 have hgi:∀q,getD (kU 1 M.L xs[i].1) q=if q=xs[i].1.key then [xs[i].1] else getD M.L q:=by
  intro q
  rw[xT,zaN]
  by_cases hq:q=xs[i].1.key
  ·simp_all[zsg]
  grind
 refine⟨fun j hj hcj=>?_,fun j hj hcj=>?_,fun q hq=>?_,h.met⟩
 ·simp only[hgi]
  by_cases hji:j=i
  ·simp_all
  ·rw[if_neg (hne j hj hji)]
   simp only[hji,decide_false,Bool.false_or]at hcj
   exact h.yes j hj hcj
 ·simp only[Bool.or_eq_false_iff,decide_eq_false_iff_not]at hcj
  simp only[hgi]
  rw[if_neg (hne j hj hcj.1)]
  exact h.no j hj hcj.2
 ·simp only[hgi]at hq
  split at hq
  ·grind
  ·exact h.keys q hq
theorem Sur.keep {xs:List ItV} {c:Nat->Bool} {M:MV} (h:Sur xs c M) (hk:(xs.map fun x=>x.1.key).Nodup) {i:Nat} (hi:i<xs.length) (hc:qY xs[i].1=0) :
  Sur xs (fun j=>decide (j=i)||c j) ⟨kU 1 M.L xs[i].1,YZ xs[i].2 M.bl⟩:=by
 have h1:=Sur.puts (List.getElem_mem hi) h (l:=xs[i].2) fun f hf=>hf
 exact h1.add hk hi hc fun f hf=>zcr hf
structure ztE (xs:List ItV):Prop where
 nd:(xs.map fun x=>x.1.key).Nodup
 fit:∀x∈xs,zk4 x.1 x.2
def ltB (n:Nat) (j:Nat):Bool:=decide (j<n)
inductive S1 (xs:List ItV):Nat->Nat->Bool->KV->Prop
 | go (i:Nat) (k:KV) (recs:List (List UInt8)) (M:MV) (hm:k.mo=1) (hb:k.j.br=false) (hf:ZQ k.j.d.m recs) (hs:zaw recs) (hl:zH 1 recs ⟨[],[]⟩=(M,0)) (he:MEq M k.M) (hS:Sur xs (ltB i) k.M):S1 xs i i false k
 | broken (i n:Nat) (k:KV) (recs:List (List UInt8)) (r:List UInt8) (M M':MV) (c:Nat->Bool) (hn:n<i) (hm:k.mo=1) (hb:k.j.br=true) (hf:zg2 k.j.d.m recs r) (hs:zaw recs) (hr:r.length<=1048576)
   (hl:zH 1 recs ⟨[],[]⟩=(M,0)) (hl':zH 1 (recs++[r]) ⟨[],[]⟩=(M',0)) (hS:Sur xs (ltB n) M) (hS':Sur xs c M') (hc:c=ltB n\/c=ltB (n+1)):S1 xs i n true k
structure S2 (xs:List ItV) (i n:Nat) (c:Nat->Bool) (k:KV):Prop where
 mo:k.mo=1
 br:k.j.br=false
 left:k.j.d.left=-1
 file:∃recs,ZQ k.j.d.m recs
 S:Sur xs c k.M
 lo:∀j,j<i->c j=true
 hi:∀j,i<=j->(j<n->c j=true)/\(n<j->c j=false)
def za2 (l:List (List UInt8)):Prop:=∀a∈l,∀b∈l,sha a=sha b->a=b
def wtX (l:List (List UInt8)):Nat:=(l.map fun s=>2*s.length+2).sum
theorem cU (a b:List (List UInt8)):wtX (a++b)=wtX a+wtX b:=by simp[wtX]
theorem uT (s:List UInt8) (l:List (List UInt8)):wtX (s::l)=(2*s.length+2)+wtX l:=by simp[wtX]
theorem c8:wtX []=0:=rfl
theorem G2:∀l:List (List UInt8),(k9 l).length<=wtX l
 | []=>by simp[k9]
 | s::l=>by
  have ih:=G2 l
  have h2:=wN s.length
  rw[ZR,yR,uT]
  simp only[List.length_append,List.length_cons]
  omega
theorem zcD:∀l:List yH,(∀r∈l,r.sum.length=32)->wtX (l.flatMap y7)<=2*szR l+68*l.length
 | [],_=>by simp[wtX]
 | r::l,h=>by
  have ih:=zcD l fun x hx=>h x (by simp[hx])
  have hr:=h r (by simp)
  have e:(if r.is then r.sum else []).length<=32:=by grind
  rw[List.flatMap_cons,cU]
  grind [y7,uT,c8,szR]
theorem zdi:∀l:List zV,wtX ((l.map Q0).flatMap yL)<=2*szO l+68*l.length
 | []=>by simp[wtX]
 | f::l=>by
  have ih:=zdi l
  have hs:=QE f.data
  rw[List.map_cons,List.flatMap_cons,cU]
  grind [yL,Q0,uT,c8,szO]
theorem zje:∀l:List yH,10*l.length<=szR l
 | []=>by simp
 | r::l=>by
  have ih:=zje l
  simp only[szR,List.map_cons,List.sum_cons,List.length_cons]at ih |-
  omega
theorem U3:∀ {l:List zV} {f:zV},f∈l->f.data.length+f.path.length<szO l
 | g::l,f,h=>by
  rcases List.mem_cons.1 h with rfl|h
  ·grind [szO]
  ·have:=U3 h
   grind [szO]
theorem zfm:∀ {l:List yH} {r:yH},r∈l->r.path.length<szR l
 | g::l,r,h=>by
  rcases List.mem_cons.1 h with rfl|h
  ·grind [szR]
  ·have:=zfm h
   grind [szR]
theorem zdF (n:Int):(kdI n).length=32:=by simp[kdI]
theorem zqv (o:WA) (hr:∀r∈o.reads,r.sum.length=32):TrD (trO o) :=
 ⟨zdF _,hr,fun m hm=>by
  obtain⟨f,_,rfl⟩:=List.mem_map.1 hm
  rfl⟩
theorem zjw (s:List UInt8):(wX s).length<=2*s.length+12:=by
 have:=G2 [blobW,s]
 simp only[uT,c8]at this
 have e:blobW.length=4:=rfl
 grind [wX]
theorem zfp {o:WA} (hr:∀r∈o.reads,r.sum.length=32):(yS (trO o)).length<=170+18*szR o.reads+140*szO o.outs:=by
 have h1:=G2 [traceW,WI (trO o)]
 have h2:(WI (trO o)).length<=wtX (jK (trO o)):=by grind [WI,G2]
 have h3:wtX (jK (trO o))=wtX [(trO o).key,Lib.itoa (trO o).reads.length]+wtX (o.reads.flatMap y7)+wtX ((o.outs.map Q0).flatMap yL):=by
  unfold jK;rw[cU,cU];rfl
 have h4:=zcD o.reads hr
 have h5:=zdi o.outs
 have h6:=zje o.reads
 have h7:=pG o.outs
 have h8:(trO o).key.length=32:=zdF _
 have h9:(Lib.itoa ((trO o).reads.length:Int)).length<=o.reads.length+1:=by rw[yR];exact wN _
 simp only[uT,c8]at h1 h3
 have e:traceW.length=5:=rfl
 grind [yS]
theorem ziE {o:WA} (hr:∀r∈o.reads,r.sum.length=32) (hs:szO o.outs+szR o.reads<=2500):(yS (trO o)).length<=800000:=by
 grind [zfp]
theorem zqG {o:WA} (hr:∀r∈o.reads,r.sum.length=32) (hc:qY (trO o)=0) (hs:szO o.outs+szR o.reads<=2500):zk4 (trO o) o.outs :=
 ⟨⟨zqv o hr,hc⟩,rfl,fun f hf=>by
  have:=zjw f.data
  have:=U3 hf
  omega,by grind [ziE]⟩
theorem zhE:∀l:List zV,wtO l<=24*szO l+24*l.length
 | []=>by simp[wtO]
 | f::l=>by
  have ih:=zhE l
  have:=zjw f.data
  simp only[wtO,wtB,szO,List.map_cons,List.sum_cons,List.length_cons]at ih this |-
  omega
theorem zrx {o:WA} (hr:∀r∈o.reads,r.sum.length=32) (hs:szO o.outs+szR o.reads<=2500):wtO o.outs+wtT (trO o)<=1000000:=by
 grind [ziE,zhE,pG,wtT]
theorem zpI {mo:Nat} (h1:1<=mo) (h8:mo<=8) {d:DV} {l:List (List UInt8)} {M:MV} (h:Op d l (openJ d)) (hl:zH mo l ⟨[],[]⟩=(M,0)):kQ mo d=((openJ d).1,some ⟨⟨(openJ d).1,false⟩,mo,M⟩,0):=by
 have e1:(openJ d).2.1=0:=by rw[h.e]
 have e2:(openJ d).2.2=l:=by rw[h.e]
 unfold kQ
 grind
theorem znH {mo:Nat} (h1:1<=mo) (h8:mo<=8):kQ mo J0=(J0,some ⟨⟨J0,false⟩,mo,⟨[],[]⟩⟩,0):=by
 have e:openJ J0=(J0,0,[]):=by
  rfl
 unfold kQ
 rw[if_neg (by omega),e]
 simp[zH]
structure W7 (l:List (List UInt8)) (s:BlL):Prop where
 got:∀a∈l,s.find? (fun p=>decide (p.1=sha a))=some (sha a,a)
 is:∀p∈s,p.1=sha p.2/\p.2∈l
theorem W7.nil:W7 [] []:=⟨by simp,by simp⟩
theorem W7.apart {l:List (List UInt8)} {s:BlL} (h:W7 l s):za2 l:=fun a ha b hb e=>by
 have h1:=h.got a ha
 rw[e,h.got b hb]at h1
 cases h1;rfl
theorem W7.old {l:List (List UInt8)} {s:BlL} (h:W7 l s) {x:List UInt8} (hx:s.find? (fun p=>decide (p.1=sha x))=some (sha x,x)):W7 (l++[x]) s :=
 ⟨fun a ha=>by
  rcases List.mem_append.1 ha with h1|h1
  ·exact h.got a h1
  ·rw[List.mem_singleton.1 h1];exact hx,fun p hp=>⟨(h.is p hp).1,List.mem_append_left _ (h.is p hp).2⟩⟩
theorem W7.new {l:List (List UInt8)} {s:BlL} (h:W7 l s) {x:List UInt8} (hx:s.find? (fun p=>decide (p.1=sha x))=none):W7 (l++[x]) (s++[(sha x,x)]):=by
 refine⟨fun a ha=>?_,fun p hp=>?_⟩
 ·rw[List.find?_append]
  rcases List.mem_append.1 ha with h1|h1
  ·rw[h.got a h1];rfl
  ·rw[List.mem_singleton.1 h1,hx];simp
 ·rcases List.mem_append.1 hp with h1|h1
  ·exact⟨(h.is p h1).1,List.mem_append_left _ (h.is p h1).2⟩
  ·rw[List.mem_singleton.1 h1];exact⟨rfl,by simp⟩
theorem W7.bad {l:List (List UInt8)} {s:BlL} (h:W7 l s) {x y:List UInt8} {m:List (List UInt8)} {d:Dig} (hx:s.find? (fun p=>decide (p.1=sha x))=some (d,y)) (hne:y≠x) (hl:∀a∈l,a∈m) (hm:x∈m):¬za2 m:=fun ha=>by
 obtain⟨h1,h2⟩:=UQ hx
 obtain⟨h3,h4⟩:=h.is _ h1
 simp only at h2 h3 h4
 exact hne (ha y (hl y h4) x hm (by rw[<-h3,h2]))
theorem D2 (K B M:Nat) (a:KA) (k:KV):(kpH K B M a k).Perm (zA B M a.o k.j.d++((a.J,jnO B k.j.br)::(K,kpO a)::(DbH a.D a.E k.mo a.cs++stB a.S a.T k.M.bl))):=by
 refine(zj4 K B M a k).trans ?_
 unfold jH
 rw[List.cons_append]
 exact List.perm_middle.symm
theorem zbb {s:St} {dst:Option Nat} {X:St->Prop} {args bs:List TV} {f:Nat} {R0:TV} {k':KV} (K B M:Nat) (a:KA) (k:KV) (hk:ZB a k) (rest:q7) (hH:s.H.Perm (kpH K B M a k++rest))
  (hc:q6 Tryz.prog f bs (kpH K B M a k) fun r H'=>r=R0/\KpR K B M k' H') (hf:qL Tryz.prog f=true) (ha:args.all qH=true) (hx:q9 (args.map TV.er) bs)
  (hX:∀a',ZB a' k'->KNE K B M a'->X (({ s with H:=kpH K B M a' k'++rest }:St).put dst R0)):kL Tryz.prog s (.av .func (.fn f [])) args dst X:=by
 refine qM (kpH K B M a k) rest hH rfl ha hf (R:=fun r H'=>r=R0/\KpR K B M k' H') ?_ ?_
 ·rw[kA hk]
  exact q6.args hc (by simpa using hx)
 rintro r' H' ⟨rfl,a',hk',rfl⟩ hnd
 refine⟨_,HSub.refl _,hX a' hk' (dP (k:=k') ?_)⟩
 rw[q7.keys_app]at hnd
 exact(List.nodup_append.1 hnd).1
theorem WZ {s:St} {dst:Option Nat} {X:St->Prop} {args bs:List TV} {f:Nat} {R0:TV} (K B M:Nat) (a:KA) (k:KV) (hk:ZB a k) (rest:q7) (hH:s.H.Perm (kpH K B M a k++rest))
  (hc:q6 Tryz.prog f bs (kpH K B M a k) fun r H'=>r=R0/\H'=kpH K B M a k) (hf:qL Tryz.prog f=true) (ha:args.all qH=true) (hx:q9 (args.map TV.er) bs)
  (hX:X (({ s with H:=s.H }:St).put dst R0)):kL Tryz.prog s (.av .func (.fn f [])) args dst X:=by
 refine qM (kpH K B M a k) rest hH rfl ha hf (R:=fun r H'=>r=R0/\H'=kpH K B M a k) ?_ ?_
 ·rw[kA hk]
  exact q6.args hc (by simpa using hx)
 rintro r' H' ⟨rfl,rfl⟩ _
 exact⟨s.H,HSub.of_perm hH.symm,hX⟩
theorem dT {s:St} {dst:Option Nat} {X:St->Prop} {args:List TV} {d':DV} {k:KV} (B M:Nat) (hBM:M≠B) (o:Bool) (d:DV) (mo:Int) (N:Nat) (hN:N<=1000000000) (hd:kF N d) (ho:kQ mo d=(d',some k,0)) (rest:q7) (hH:s.H.Perm (zA B M o d++rest))
  (ha:args.all qH=true) (hx:q9 (args.map TV.er) [.av .ptr (.ptr B QI []),.av (.int .i64) (.i .i64 mo)])
  (hX:∀K a,ZB a k->KNE K B M a->X (({ s with H:=kpH K B M a k }:St).put dst (.tup [(.ptr,.ptr K KpT []),(.int .i64,.i .i64 0)]))):kL Tryz.prog s (.av .func (.fn 7 [])) args dst X:=by
 refine qM (zA B M o d) rest hH rfl ha (by simp) (R:=XQ B M (kQ mo d)) ?_ ?_
 ·rw[JG]
  exact q6.args (zeR B M hBM o d mo N hN hd) (by simpa using hx)
 rw[ho]
 rintro r' H' (⟨h,_⟩|⟨k2,K,hk2,rfl,a,hka,rfl⟩) hnd
 ·cases h
 ·simp only[Option.some.injEq]at hk2
  subst hk2
  refine⟨_,HSub.of_sub (List.sublist_append_left _ _),hX K a hka (dP (k:=k) ?_)⟩
  rw[q7.keys_app]at hnd
  exact(List.nodup_append.1 hnd).1
theorem uX {s:St} {dst:Option Nat} {X:St->Prop} {args:List TV} (B M:Nat) (hBM:M≠B) (o:Bool) (d:DV) (hd:DOK d) (hz:szF d.m<=1000000000000/\szF d.n<=1000000000000) (ps:List Int) (hps:ps.length<=1000000000) (rest:q7) (hH:s.H.Perm (zA B M o d++rest))
  (ha:args.all qH=true) (hx:q9 (args.map TV.er) [.av .ptr (.ptr B QI []),.av (.slice 3) (JX ps)])
  (hX:∀B2 M2 o2,M2≠B2->X (({ s with H:=zA B2 M2 o2 (kP ps d) }:St).put dst (.av .ptr (.ptr B2 QI [])))):kL Tryz.prog s (.av .func (.fn 21 [])) args dst X:=by
 refine qM (zA B M o d) rest hH rfl ha (by simp) (R:=CrR B M o d (kP ps d)) ?_ ?_
 ·rw[JG]
  exact q6.args (zk7 B M hBM o d hd hz ps hps) (by simpa using hx)
 rintro r' H' ⟨B2,M2,o2,h,rfl,rfl⟩ _
 refine⟨_,HSub.of_sub ?_,hX B2 M2 o2 h⟩
 rw[List.append_assoc]
 exact List.sublist_append_left _ _
theorem ZA.up {N N':Nat} {k:KV} (h:ZA N k) (hN:N<=N'):ZA N' k:=ZA.mk' (h.mem.up hN) (h.of.up hN) h.lo h.hi
theorem zck:kF 0 J0:=⟨zp5,Nat.le_refl _,Nat.le_refl _⟩
theorem za2.mono {a b:List (List UInt8)} (h:za2 b) (hs:∀x∈a,x∈b):za2 a:=fun x hx y hy e=>h x (hs x hx) y (hs y hy) e
theorem Std.up {n N N':Nat} {k:KV} {recs:List (List UInt8)} (h:Std n N k recs) (hN:N<=N'):Std n N' k recs:={ h with inv:=h.inv.up hN }
structure DbS (n N:Nat) (k:KV) (L:DbL):Prop where
 std:∃recs,Std n N k recs
 left:k.j.d.left=-1
 same:∀q,getD k.M.L q=getD L q
 inv:wW n N ⟨L,[]⟩
theorem GV {n N:Nat} {x:MV} (h:wW n N x):12*x.L.length<=N:=by
 have hb:∀L:DbL,(∀p∈L,p.2≠[])->12*L.length<=G4 L:=by
  intro L
  induction L with
  | nil=>intro _;simp
  | cons p L ih =>
   intro hp
   have h1:=ih fun q hq=>hp q (List.mem_cons_of_mem _ hq)
   have h2:12<=xU p.2:=by
    cases hc:p.2 with
    | nil=>simp_all
    | cons t r=>grind [xU,wtT]
   grind [G4]
 have:=hb x.L fun p hp=>(h.ok.2 p hp).1
 have:=h.le
 omega
theorem UC {n N:Nat} {x:MV} (h:wW n N x):12*x.bl.length<=N:=by
 have hb:∀l:BlL,12*l.length<=uP l:=by
  intro l
  induction l with
  | nil=>simp
  | cons p l ih=>grind [uP,wtB]
 have:=hb x.bl
 have:=h.le
 omega
end
end Go.Proofs.YtognnffjdckalaaGreatDoor
