/- strings. No condition. -/
import Derived.Test.YtdkieabmeiojjaaGreatDoorP10ToK6
set_option linter.unusedSimpArgs false
set_option linter.unusedVariables false
set_option linter.unusedSectionVars false
set_option maxHeartbeats 64000000
set_option maxRecDepth 100000
namespace Go.Proofs.YtdkieabmeiojjaaGreatDoor
open Go Go.Ab
open Classical
section
variable [Sel]
@[simp] theorem zqI:q9 Tryz.prog 266=.other:=by kernel_rfl
@[simp] theorem zqd:qP Tryz.prog (.func 215)=true:=by kernel_rfl
theorem zo4:zpN Tryz.prog (.func 215):=⟨_,Tryz.func215,by kernel_rfl,by kernel_rfl,by kernel_rfl,by kernel_rfl⟩
abbrev Z1:TyD:=.struct [242,213]
def bys (l:List UInt8):List AV:=l.map fun b=>.i .u8 b.toNat
@[simp] theorem zon (l:List UInt8):(bys l).length=l.length:=by simp[bys]
@[simp] theorem zpF (l:List UInt8):AV.erks (bys l)=bys l:=by simp[bys,AV.erks_eq,AV.erk,Function.comp_def]
@[simp] theorem zpZ (l:List UInt8):AV.ers (bys l)=bys l:=by simp[bys,AV.ers_eq,AV.er,Function.comp_def]
theorem zcy (a b:List UInt8):bys a++bys b=bys (a++b):=by simp[bys]
theorem zei (l:List UInt8) (n:Nat):(bys l).take n=bys (l.take n):=by simp[bys,List.map_take]
theorem zkT (l:List UInt8) (n:Nat):(bys l).drop n=bys (l.drop n):=by simp[bys,List.map_drop]
theorem zgU (n:Nat):List.replicate n (AV.i .u8 0)=bys (List.replicate n 0):=by simp[bys]
theorem Y9:∀l,bytesOf (bys l)=some l
 | []=>rfl
 | b::l=>by
  have:=Y9 l
  simp only[bys,List.map_cons,bytesOf]at this |-
  rw[this]
  simp
theorem zkD (b:Nat) (buf:AV) (hb:buf.erk=buf):q7 Tryz.prog 210 [.av .ptr (.ptr b Z1 [])] [(b,.var Z1 (.agg [.nilptr,buf]))] fun r H'=>r=.tup []/\H'=[(b,.var Z1 (.agg [.ptr b Z1 [],buf]))]:=by
 refine zov Tryz.func210 cf0 fun imm0 w0=>?_
 simp (disch:=omega) [zz]
 refine⟨by kernel_rfl,zo4,by kernel_rfl,?_⟩
 simp (disch:=omega) [zz,Tryz.f210,hb]
theorem zmM (b:Nat) (buf:AV) (hb:buf.erk=buf):q7 Tryz.prog 210 [.av .ptr (.ptr b Z1 [])] [(b,.var Z1 (.agg [.ptr b Z1 [],buf]))] fun r H'=>r=.tup []/\H'=[(b,.var Z1 (.agg [.ptr b Z1 [],buf]))]:=by
 refine zov Tryz.func210 cf0 fun imm0 w0=>?_
 simp (disch:=omega) [zz]
 refine⟨by kernel_rfl,?_⟩
 simp (disch:=omega) [zz,Tryz.f210,hb]
inductive BS (b:Nat) (bs:List UInt8):q8->Prop
 | fresh (p:AV) (hp:p=.nilptr\/p=.ptr b Z1 []) (h:bs=[]):BS b bs [(b,.var Z1 (.agg [p,.nsl]))]
 | row (p:AV) (hp:p=.nilptr\/p=.ptr b Z1 []) (r cap:Nat) (rs:List UInt8) (hc:bs.length+rs.length=cap) (h0:0<cap):BS b bs [(b,.var Z1 (.agg [p,.msl r 5 0 bs.length cap])),(r,.var (.arr cap 5) (.agg (bys (bs++rs))))]
theorem zkd (b:Nat) (p buf:AV) (hp:p=.nilptr\/p=.ptr b Z1 []) (hb:buf.erk=buf):q7 Tryz.prog 210 [.av .ptr (.ptr b Z1 [])] [(b,.var Z1 (.agg [p,buf]))] fun r H'=>r=.tup []/\H'=[(b,.var Z1 (.agg [.ptr b Z1 [],buf]))]:=by
 rcases hp with rfl|rfl
 ·exact zkD b buf hb
 ·exact zmM b buf hb
theorem BS.er {b:Nat} {bs:List UInt8} {H:q8} (h:BS b bs H):H.er=H:=by
 cases h with
 | fresh p hp h=>rcases hp with rfl|rfl<;>simp[q8.er,HObj.er,AV.erk,AV.erks]
 | row p hp r cap rs hc h0=>rcases hp with rfl|rfl<;>simp[q8.er,HObj.er,AV.erk,AV.erks]
def BSs (b:Nat) (bs:List UInt8) (H:q8):Prop:=∃H2,HSub H2 H/\BS b bs H2
theorem q7.bss {P:Program} {f:FuncId} {args:List TV} {H:q8} {r0:TV} {b:Nat} {bs:List UInt8} (h:q7 P f args H fun r H'=>r=r0/\BSs b bs H'):q7 P f args H fun r H'=>r=r0/\BS b bs H' :=
 h.sub fun r H' ⟨h1,H2,h2,h3⟩ _=>⟨H2,h2,h1,h3⟩
theorem zpr (b:Nat) (bs x:List UInt8) (H:q8) (hB:BS b bs H) (hl:bs.length+x.length<=100000000000) :
  q7 Tryz.prog 195 [.av .ptr (.ptr b Z1 []),.av .str (.s x)] H fun r H'=>r=.tup [(.int .i64,.i .i64 x.length),(.iface,.nilifc)]/\BS b (bs++x) H':=by
 refine q7.bss <| q7.nodup fun hnd=>?_
 have ebx:(x.map fun b=>AV.i .u8 b.toNat)=bys x:=rfl
 cases hB with
 | fresh p hp h =>
  subst h
  simp at hl
  refine zov Tryz.func195 cf0 fun imm0 w0=>?_
  simp (disch:=omega) [zz]
  refine w8 (R:=fun r H'=>r=.tup []/\H'=[(b,.var Z1 (.agg [.ptr b Z1 [],.nsl]))]) rfl (by simp[qE]) (by simp) ?_ ?_
  ·have hpe:p.erk=p:=by rcases hp with rfl|rfl<;>rfl
   simpa[TV.er,AV.er,q8.er_cons,q8.er_nil,HObj.er,AV.erk,AV.erks,hpe]using zkd b p .nsl hp rfl
  rintro r H' ⟨rfl,rfl⟩
  simp (disch:=omega) [zz]
  refine⟨by omega,fun hx=>?_,fun hx r cap hr hcap=>?_⟩
  ·subst hx
   simp (disch:=omega) [zz,Tryz.f195]
   exact⟨_,HSub.refl _,.fresh _ (.inr rfl) rfl⟩
  ·have hr':¬b=r:=fun e=>hr e.symm
   simp (disch:=omega) [zz,Tryz.f195,hr,hr',ebx,zgU,zcy]
   refine⟨_,HSub.of_perm (List.Perm.swap _ _ _),?_⟩
   have:=BS.row (b:=b) (bs:=x) (.ptr b Z1 []) (.inr rfl) r cap (List.replicate (cap-x.length) 0) (by simp;omega) (by omega)
   exact this
 | row p hp r cap rs hc h0 =>
  simp[q8.keys]at hnd
  have hnd':¬r=b:=fun e=>hnd e.symm
  have etk:(bys (bs++rs)).take bs.length=bys bs:=by rw[zei,List.take_left]
  have edr:(bys (bs++rs)).drop (bs.length+x.length)=bys (rs.drop x.length):=by
   rw[zkT,List.drop_append,List.drop_eq_nil_of_le (by omega),List.nil_append,Nat.add_sub_cancel_left]
  refine zov Tryz.func195 cf0 fun imm0 w0=>?_
  simp (disch:=omega) [zz]
  refine qD (R:=fun r' H'=>r'=.tup []/\H'=[(b,.var Z1 (.agg [.ptr b Z1 [],.msl r 5 0 bs.length cap]))]) [(b,.var Z1 (.agg [p,.msl r 5 0 bs.length cap]))] [(r,.var (.arr cap 5) (.agg (bys (bs++rs))))] (List.Perm.refl _) rfl (by simp[qE]) (by simp) ?_ ?_
  ·have hpe:p.erk=p:=by rcases hp with rfl|rfl<;>rfl
   simpa[TV.er,AV.er,q8.er_cons,q8.er_nil,HObj.er,AV.erk,AV.erks,hpe]using zkd b p (.msl r 5 0 bs.length cap) hp rfl
  rintro r' H' ⟨rfl,rfl⟩ _
  refine⟨_,HSub.refl _,?_⟩
  simp (disch:=omega) [zz,hnd,hnd',etk,edr,ebx,zcy]
  refine⟨by omega,by omega,fun hx=>?_,fun hx r2 cap2 hr2 hr2' hcap2=>?_⟩
  ·simp (disch:=omega) [zz,Tryz.f195,hnd,hnd']
   refine⟨_,HSub.refl _,?_⟩
   have:=BS.row (b:=b) (bs:=bs++x) (.ptr b Z1 []) (.inr rfl) r cap (rs.drop x.length) (by simp;omega) h0
   simpa using this
  ·have hr2b:¬b=r2:=fun e=>hr2 e.symm
   simp (disch:=omega) [zz,Tryz.f195,hr2,hr2b,hr2',hnd,hnd',zgU,zcy]
   refine⟨_,⟨_,List.Perm.swap _ _ _,((List.Sublist.refl _).cons _).cons_cons _ |>.cons_cons _⟩,?_⟩
   have:=BS.row (b:=b) (bs:=bs++x) (.ptr b Z1 []) (.inr rfl) r2 cap2 (List.replicate (cap2-(bs.length+x.length)) 0) (by simp;omega) (by omega)
   simpa using this
theorem zbH (b:Nat) (bs:List UInt8) (H:q8) (hB:BS b bs H) (hl:bs.length<=100000000000) :
  q7 Tryz.prog 196 [.av .ptr (.ptr b Z1 [])] H fun r H'=>r=.av .str (.s bs):=by
 refine q7.nodup fun hnd=>?_
 cases hB with
 | fresh p hp h =>
  subst h
  refine zov Tryz.func196 cf0 fun imm0 w0=>?_
  simp (disch:=omega) [zz,Tryz.f196]
  (show vH _ _=true;kernel_rfl)
 | row p hp r cap rs hc h0 =>
  simp[q8.keys]at hnd
  have hnd':¬r=b:=fun e=>hnd e.symm
  have hc0:¬cap=0:=by omega
  have etk:(bys (bs++rs)).take bs.length=bys bs:=by rw[zei,List.take_left]
  have hbo:=Y9 bs
  refine zov Tryz.func196 cf0 fun imm0 w0=>?_
  simp (disch:=omega) [zz,hnd,hnd',etk,hc0,hbo]
  refine⟨(show vH _ _=true by kernel_rfl),by kernel_rfl,by omega,by omega,?_⟩
  simp (disch:=omega) [zz,Tryz.f196]
end
section
variable [Sel] [SelPow] [SelMax]
theorem zka {s sub:List UInt8} {i:Nat} (h1:i<=s.length) (h2:Lib.occAt s sub i=true):∃m:Nat,Lib.index s sub=m/\Lib.occAt s sub m=true/\m<=s.length:=by
 induction i using Nat.strongRecOn with
 | ind i ih =>
  by_cases hf:∀j,j<i->Lib.occAt s sub j=false
  ·exact⟨i,Lib.index_first h1 h2 hf,h2,h1⟩
  ·obtain⟨j,hj⟩:=Classical.not_forall.1 hf
   obtain⟨hji,hj2⟩:=Classical.not_imp.1 hj
   exact ih j hji (by omega) (by simpa using hj2)
theorem Y0:∀ {l cur x:List UInt8},x∈jY cur l->∃a b,cur++l=a++x++b
 | [],cur,x,h=>by
  unfold jY at h
  split at h
  ·cases h
  ·simp only[List.mem_singleton]at h;subst h;exact⟨[],[],by simp⟩
 | c::r,cur,x,h=>by
  unfold jY at h
  split at h
  ·split at h
   ·rename_i hc
    obtain⟨a,b,e⟩:=Y0 h
    subst hc
    refine⟨c::a,b,?_⟩
    simp only[List.nil_append]at e |-
    rw[e];simp
   ·rcases List.mem_cons.1 h with rfl|h
    ·exact⟨[],c::r,by simp⟩
    ·obtain⟨a,b,e⟩:=Y0 h
     refine⟨cur++c::a,b,?_⟩
     simp only[List.nil_append]at e
     rw[e];simp
  ·obtain⟨a,b,e⟩:=Y0 h
   exact⟨a,b,by rw[<-e];simp⟩
theorem zf5 {s:Txt} (h:jZ∈zG s):∃m:Nat,Lib.index s jZ=m/\m+4<=s.length:=by
 obtain⟨a,b,e⟩:=Y0 h
 simp only[List.nil_append]at e
 have hocc:Lib.occAt s jZ a.length=true:=by
  unfold Lib.occAt
  rw[e]
  simp[List.isPrefixOf_iff_prefix]
 obtain⟨m,h1,h2,h3⟩:=zka (by rw[e];simp) hocc
 refine⟨m,h1,?_⟩
 rcases Lib.occAt_room h2 with h|h
 ·exact h
 ·cases h
noncomputable def kA (c:CmdV):HObj:=.var QQ (zE c)
def YX (x:Option (Option CmdV)) (r:TV) (H':q8):Prop:=match x with
 | none=>r=.tup [(.ptr,.nilptr),(.bool,.b false)]/\H'=[]
 | some none=>r=.tup [(.ptr,.nilptr),(.bool,.b true)]/\H'=[]
 | some (some c)=>∃b,r=.tup [(.ptr,.ptr b QQ []),(.bool,.b true)]/\H'=[(b,kA c)]
theorem zaw (l:Txt) (hl:l.length<=1000000):PC Tryz.prog 193 [.av .str (.s l)] (.av .str (.s l)):=by
 unfold PC
 refine q7.sub (R:=fun r H'=>r=.av .str (.s l)) ?_ (fun r H' hr _=>⟨[],HSub.of_sub (List.nil_sublist _),hr,rfl⟩)
 refine zov Tryz.func193 cf0 fun imm0 w0=>?_
 by_cases h0:l=[]
 ·subst h0
  simp (disch:=omega) [zz,Tryz.f193]
 ·have hp:0<l.length:=List.length_pos_iff.2 h0
  have h0':¬(l.length:Int)=0:=by omega
  have hbo:bytesOf (List.take l.length (l.map fun b=>AV.i .u8 (b.toNat:Int)))=some l:=by
   rw[List.take_of_length_le (by simp)]
   exact Y9 l
  simp (disch:=omega) [zz,h0,h0']
  refine⟨by omega,by omega,fun b=>⟨hp,by kernel_rfl,by omega,?_⟩⟩
  rw[hbo]
  simp (disch:=omega) [zz,Tryz.f193]
theorem pQ (l:Txt) (hl:l.length<=1000000):PC Tryz.prog 169 [.av .str (.s l)] (.av .str (.s l)):=by
 refine zow Tryz.func169 cf0 fun imm0 w0=>?_
 simp (disch:=omega) [zz]
 refine zcv (zaw l hl) ?_
 simp (disch:=omega) [zz,Tryz.f169]
theorem zik (n:Txt) (h:(jI n).2=true):(jI n).1=2\/(jI n).1=3:=by
 unfold jI at h |-
 by_cases a:n=zU\/n=wF\/n=jN
 ·rw[if_pos a];simp
 rw[if_neg a]at h |-
 by_cases b:n=jM
 ·rw[if_pos b];simp
 rw[if_neg b]at h |-
 by_cases c:n=Q3\/n=y3\/n=kF
 ·rw[if_pos c]at h;cases h
 rw[if_neg c]at h
 by_cases d:n=wV\/n=yG\/n=kV\/n=wC\/n=QF
 ·rw[if_pos d]at h;cases h
 ·rw[if_neg d]at h;cases h
abbrev zqu:Cfg:=⟨fun n=>n==38||n==66,fun n=>n==1000006||n==2000038⟩
theorem zkO (l:Txt) (hl:l.length<=1000000):q7 Tryz.prog 141 [.av .str (.s l)] [] (YX (ZA l)):=by
 obtain⟨X,hX⟩:∃X,ZA l=X:=⟨_,rfl⟩
 rw[hX]
 unfold ZA at hX
 obtain⟨ws,hws⟩:∃ws,zG l=ws:=⟨_,rfl⟩
 have hw:=zeH l hl
 have heach:∀w∈ws,w≠[]/\w.length<=l.length:=fun w hw=>by
  rw[<-hws]at hw
  have:=ZV hw
  exact⟨this.1,by simpa using this.2⟩
 have htx:jZ∈ws->∃m:Nat,Lib.index l jZ=m/\m+4<=l.length:=fun h=>zf5 (hws▸h)
 have hwl:ws.length<=l.length+1:=by rw[<-hws];exact UD
 rw[hws]at hX hw
 refine zov Tryz.func141 zqu fun imm0 w0=>?_
 simp (disch:=omega) [zz]
 refine zcv hw ?_
 match ws,hX,heach,htx,hwl with
 | [],hX,_,_,_ =>
  simp only at hX
  simp (disch:=omega) [zz,strs,Tryz.f141,<-hX,YX]
 | w::wr,hX,heach,htx,hwl =>
  simp only at hX
  obtain⟨hne,hwlen⟩:=heach w (by simp)
  obtain⟨c,w',rfl⟩:=List.exists_cons_of_ne_nil hne
  have hnz:¬(wr.length:Int)+1=0:=by omega
  by_cases hc:c=35
  ·subst hc
   rw[if_pos (show ((35:UInt8)::w').head?=some 35 from rfl)]at hX
   simp (disch:=omega) [zz,strs,hnz]
   simp (disch:=omega) [zz,Tryz.f141,<-hX,YX]
  rw[if_neg (by simpa using hc)]at hX
  have hc':¬(c.toNat:Int)=35:=by have:=za9 (n:=35) (by omega) hc;simpa using this
  by_cases htt:c::w'=jZ
  ·rw[if_pos htt]at hX
   obtain⟨m,hm,hml⟩:=htx (by rw[<-htt];simp)
   have hcc:c=116/\w'=[101,120,116]:=by simpa[jZ]using htt
   obtain⟨rfl,rfl⟩:=hcc
   simp (disch:=omega) [zz,strs,hnz,hc']
   refine qO (zl2 l jZ (by omega)) rfl rfl (by simp) (by simp[qR,coC,TV.er,AV.er,jZ]) ?_
   rw[hm]
   have h4:(0:Int)<=(m:Int)+4:=by omega
   have h4':(m:Int)+4<=l.length:=by omega
   simp (disch:=omega) [zz,h4,h4']
   refine jO.of [0,1,2,3,4,5,6,7,8,9,10,11] [] (by kernel_rfl) ?_
   obtain⟨rs,hrs⟩:∃rs,rs=l.drop (m+4):=⟨_,rfl⟩
   have hrest:List.drop 1 (List.drop ((Lib.index l jZ).toNat+4) l)=rs.drop 1:=by rw[hm,hrs];rfl
   rw[hrest]at hX
   have hmn:min 1 rs.length<=rs.length:=Nat.min_le_right _ _
   by_cases hr1:rs.length<1
   ·have hr1':(rs.length:Int)<1:=by omega
    have hrn:rs=[]:=List.length_eq_zero_iff.1 (by omega)
    subst hrn
    simp (disch:=omega) [zz,h4,h4',<-hrs]
    (repeat with_reducible refine om ?_)
    refine kP (pQ [] (by simp)) rfl rfl (by simp) (by simp[qR,TV.er,AV.er]) ?_
    simp (disch:=omega) [zz]
    (repeat with_reducible refine om ?_)
    intro bb
    simp (disch:=omega) [zz,Tryz.f141,<-hX,YX]
    simp[kA,zE,strs,AV.ers_eq,Function.comp_def,AV.er]
   ·have hr1':¬(rs.length:Int)<1:=by omega
    have hr2:1<=rs.length:=by omega
    have hrl:rs.length<=l.length:=by rw[hrs,List.length_drop];omega
    simp (disch:=omega) [zz,h4,h4',<-hrs,hr1',hr2]
    (repeat with_reducible refine om ?_)
    refine kP (pQ (rs.drop 1) (by rw[List.length_drop];omega)) rfl rfl (by simp) (by simp[qR,TV.er,AV.er]) ?_
    simp (disch:=omega) [zz]
    (repeat with_reducible refine om ?_)
    intro bb
    simp (disch:=omega) [zz,Tryz.f141,<-hX,YX]
    simp[kA,zE,strs,AV.ers_eq,Function.comp_def,AV.er]
  rw[if_neg htt]at hX
  have htt':¬(c=116/\w'=[101,120,116]):=by simpa[jZ]using htt
  simp (disch:=omega) [zz,strs,hnz,hc',htt']
  refine zcv (zlJ (c::w')) ?_
  have htk:=zik (c::w')
  obtain⟨tk,htke⟩:∃x,x=jI (c::w'):=⟨_,rfl⟩
  obtain⟨tn,tp⟩:=tk
  rw[<-htke]at hX htk |-
  simp only at hX htk |-
  by_cases h1:tn=(wr.length:Int)+1
  rotate_left
  ·rw[if_pos (.inl h1)]at hX
   simp (disch:=omega) [zz,h1]
   simp (disch:=omega) [zz,Tryz.f141,<-hX,YX]
  subst h1
  have hz:¬(wr.length:Int)+1=0:=by omega
  cases tp with
  | false =>
   rw[if_neg (by simp;omega)]at hX
   simp (disch:=omega) [zz,hz]
   intro bb
   simp (disch:=omega) [zz,Tryz.f141,<-hX,YX]
   simp[kA,zE,strs,AV.ers_eq,Function.comp_def,AV.er]
  | true =>
   have hwr:wr≠[]:=by
    rintro rfl
    have:=htk rfl
    simp at this
   obtain⟨p,wr',rfl⟩:=List.exists_cons_of_ne_nil hwr
   have hpl:=(heach p (by simp)).2
   have hz2:¬(wr'.length:Int)+1+1=0:=by omega
   have hz3:(1:Int)<(wr'.length:Int)+1+1:=by omega
   simp (disch:=omega) [zz,hz,hz2,hz3]
   refine zcv (YW p (by omega)) ?_
   cases hmv:w5 p
   ·rw[if_pos (by simp[hmv])]at hX
    simp (disch:=omega) [zz,hmv]
    simp (disch:=omega) [zz,Tryz.f141,<-hX,YX]
   ·rw[if_neg (by simp[hmv];omega)]at hX
    simp (disch:=omega) [zz,hmv]
    intro bb
    simp (disch:=omega) [zz,Tryz.f141,<-hX,YX]
    simp[kA,zE,strs,AV.ers_eq,Function.comp_def,AV.er]
noncomputable def qS (p:Txt):HObj:=.var .str (.s p)
noncomputable def yI (v:AV):HObj:=.var .func v
noncomputable def K7 (Q:Nat):HObj:=.var xL (.map (some Q))
def zdp (R:Nat) (q:Option Nat) (S:q8):ThV->AV->Prop
 | .add,v=>v=.bm 145 [.ptr R kO []]
 | .scan w,v=>∃Q br bw bs,q=some Q/\v=.fn 173 [.ptr br .ptr [],.ptr bw .str [],.ptr bs xL []]/\(br,qV R)∈S/\(bw,qS w)∈S/\(bs,K7 Q)∈S
def V3 (R:Nat) (q:Option Nat) (S:q8):CoV->AV->Prop
 | .there t,v=>∃br bt tv,v=.fn 172 [.ptr br .ptr [],.ptr bt .func []]/\(br,qV R)∈S/\(bt,yI tv)∈S/\zdp R q S t tv
 | .tr,v=>∃br,v=.fn 146 [.ptr br .ptr []]/\(br,qV R)∈S
def PV (R:Nat) (q:Option Nat) (S:q8):TdV->AV->Prop
 | .cmd c,v=>∃br bc,v=.fn 110 [.ptr br .ptr [],.ptr bc QQ []]/\(br,qV R)∈S/\(bc,kA c)∈S
 | .ans k p,v=>∃bt br bp kv,v=.fn 171 [.ptr bt .func [],.ptr br .ptr [],.ptr bp .str []]/\(bt,yI kv)∈S/\(br,qV R)∈S/\(bp,qS p)∈S/\V3 R q S k kv
 | .line s w,v=>∃Q bs bw br bm,q=some Q/\v=.fn 175 [.ptr bs .str [],.ptr bw .str [],.ptr br .ptr [],.ptr bm xL []]/\bs≠bw/\(bs,qS s)∈S/\(bw,qS w)∈S/\(br,qV R)∈S/\(bm,K7 Q)∈S
theorem zdp.mono {R:Nat} {q:Option Nat} {S S':q8} (h:∀x∈S,x∈S'):∀ {t:ThV} {v:AV},zdp R q S t v->zdp R q S' t v
 | .add,_,e=>e
 | .scan _,_,⟨Q,br,bw,bs,e0,e,h1,h2,h3⟩=>⟨Q,br,bw,bs,e0,e,h _ h1,h _ h2,h _ h3⟩
theorem V3.mono {R:Nat} {q:Option Nat} {S S':q8} (h:∀x∈S,x∈S'):∀ {t:CoV} {v:AV},V3 R q S t v->V3 R q S' t v
 | .there _,_,⟨br,bt,tv,e,h1,h2,h3⟩=>⟨br,bt,tv,e,h _ h1,h _ h2,h3.mono h⟩
 | .tr,_,⟨br,e,h1⟩=>⟨br,e,h _ h1⟩
theorem PV.mono {R:Nat} {q:Option Nat} {S S':q8} (h:∀x∈S,x∈S'):∀ {t:TdV} {v:AV},PV R q S t v->PV R q S' t v
 | .cmd _,_,⟨br,bc,e,h1,h2⟩=>⟨br,bc,e,h _ h1,h _ h2⟩
 | .ans _ _,_,⟨bt,br,bp,kv,e,h1,h2,h3,h4⟩=>⟨bt,br,bp,kv,e,h _ h1,h _ h2,h _ h3,h4.mono h⟩
 | .line _ _,_,⟨Q,bs,bw,br,bm,e0,e,hn,h1,h2,h3,h4⟩=>⟨Q,bs,bw,br,bm,e0,e,hn,h _ h1,h _ h2,h _ h3,h _ h4⟩
theorem zdp.er {R:Nat} {q:Option Nat} {S:q8} {t:ThV} {v:AV} (h:zdp R q S t v):v.er=v/\v.erk=v:=by
 cases t with
 | add=>rw[show v=_ from h];exact⟨rfl,rfl⟩
 | scan w=>obtain⟨_,_,_,_,_,rfl,_⟩:=h;exact⟨rfl,rfl⟩
theorem V3.er {R:Nat} {q:Option Nat} {S:q8} {t:CoV} {v:AV} (h:V3 R q S t v):v.er=v/\v.erk=v:=by
 cases t with
 | there t=>obtain⟨_,_,_,rfl,_⟩:=h;exact⟨rfl,rfl⟩
 | tr=>obtain⟨_,rfl,_⟩:=h;exact⟨rfl,rfl⟩
theorem PV.erk {R:Nat} {q:Option Nat} {S:q8} {t:TdV} {v:AV} (h:PV R q S t v):v.erk=v:=by
 cases t with
 | cmd c=>obtain⟨_,_,rfl,_⟩:=h;rfl
 | ans k p=>obtain⟨_,_,_,_,rfl,_⟩:=h;rfl
 | line s w=>obtain⟨_,_,_,_,_,_,rfl,_⟩:=h;rfl
inductive yJ (R:Nat) (q:Option Nat) (S:q8):List TdV->List AV->Prop
 | nil:yJ R q S [] []
 | cons {t v ts vs}:PV R q S t v->yJ R q S ts vs->yJ R q S (t::ts) (v::vs)
theorem yJ.mono {R:Nat} {q:Option Nat} {S S':q8} (h:∀x∈S,x∈S') {ts:List TdV} {vs:List AV} (hh:yJ R q S ts vs):yJ R q S' ts vs:=by
 induction hh with
 | nil=>exact .nil
 | cons a _ ih=>exact .cons (a.mono h) ih
theorem yJ.len {R:Nat} {q:Option Nat} {S:q8} {ts:List TdV} {vs:List AV} (hh:yJ R q S ts vs):ts.length=vs.length:=by
 induction hh with
 | nil=>rfl
 | cons _ _ ih=>simp[ih]
theorem yJ.app {R:Nat} {q:Option Nat} {S:q8} {ts us:List TdV} {vs ws:List AV} (h1:yJ R q S ts vs) (h2:yJ R q S us ws):yJ R q S (ts++us) (vs++ws):=by
 induction h1 with
 | nil=>exact h2
 | cons a _ ih=>exact .cons a ih
theorem yJ.snoc {R:Nat} {q:Option Nat} {S:q8}:∀ {ts:List TdV} {t:TdV} {vs:List AV},yJ R q S (ts++[t]) vs->∃us v,vs=us++[v]/\yJ R q S ts us/\PV R q S t v
 | [],t,vs,h=>by
  cases h with
  | cons a b=>cases b;exact⟨[],_,rfl,.nil,a⟩
 | x::ts,t,vs,h=>by
  cases h with
  | cons a b =>
   obtain⟨us,v,rfl,h1,h2⟩:=yJ.snoc b
   exact⟨_::us,v,rfl,.cons a h1,h2⟩
theorem yJ.jk {R:Nat} {q:Option Nat} {S:q8} {ts:List TdV} {vs:List AV} (hh:yJ R q S ts vs):JK vs:=by
 unfold JK
 induction hh with
 | nil=>rfl
 | cons a _ ih=>rw[AV.erks_eq]at *;simp[a.erk,ih]
def zaV (fs:List AV) (ta:AV) (TA:q8):Prop:=(fs=[]/\ta=.nsl/\TA=[])\/∃T cap j,JK j/\ta=.msl T 1 0 fs.length cap/\fs.length+j.length=cap/\TA=[(T,.var (.arr cap 1) (.agg (fs++j)))]
def zk0 (q:Option Nat) (l:List Txt) (QH:q8):Prop:=(q=none/\QH=[])\/∃Q,q=some Q/\QH=[(Q,.map 9 4 (X8 l))]
structure zP where
 K:Nat
 q:Option Nat
 QH:q8
 TA:q8
 S:q8
 fs:List AV
 ta:AV
noncomputable def zP.core (p:zP) (R:Nat) (r:qG):q8:=(R,qJ p.ta (zO r.env) r.buf p.K r.asks r.waits r.over)::(p.K,.map 9 74 (knE r.known))::(p.TA++(p.QH++p.S))
structure zP.OK (p:zP) (R:Nat) (r:qG):Prop where
 todo:zaV p.fs p.ta p.TA
 seen:zk0 p.q r.seen p.QH
 box:p.S.er=p.S
 tds:yJ R p.q p.S r.todo p.fs
def qQ (R:Nat) (r:qG) (H:q8):Prop:=∃p:zP,p.OK R r/\H=p.core R r
theorem zaV.er {R:Nat} {q:Option Nat} {S:q8} {ts:List TdV} {fs:List AV} {ta:AV} {TA:q8} (h:zaV fs ta TA) (h2:yJ R q S ts fs):TA.er=TA/\ta.erk=ta:=by
 rcases h with⟨rfl,rfl,rfl⟩|⟨T,cap,j,hj,rfl,hc,rfl⟩
 ·exact⟨rfl,rfl⟩
 ·have:=h2.jk.app hj
  refine⟨?_,rfl⟩
  simp only[q8.er_cons,q8.er_nil,HObj.er_var,AV.erk]
  rw[show AV.erks (fs++j)=fs++j from this]
theorem zk0.er {q:Option Nat} {l:List Txt} {QH:q8} (h:zk0 q l QH):QH.er=QH:=by
 rcases h with⟨_,rfl⟩|⟨Q,_,rfl⟩
 ·rfl
 ·simp[q8.er_cons,HObj.er_map,X8,AV.er,Function.comp_def]
theorem zH (l:List (Txt × Txt)):(zO l).erk=zO l:=by simp[zO,AV.erk,AV.ers_eq,x4,Function.comp_def,AV.er,AV.ers]
theorem zjI (l:List KnV):(HObj.map 9 74 (knE l)).er=.map 9 74 (knE l):=by
 simp[HObj.er_map,knE,jD,AV.er,AV.ers,Function.comp_def]
theorem qQ.er {R:Nat} {r:qG} {H:q8} (h:qQ R r H):H.er=H:=by
 obtain⟨p,hp,rfl⟩:=h
 obtain⟨e1,e2⟩:=hp.todo.er hp.tds
 have e3:=ZM (buf:=r.buf) (K:=p.K) (asks:=r.asks) (waits:=r.waits) (over:=r.over) e2 (zH r.env)
 simp only[zP.core,q8.er_cons,q8.er_app,e1,hp.seen.er,hp.box,e3,zjI]
theorem P0 {a:Nat × HObj} {H:q8} (h:a∈H):∃r,H.Perm (a::r):=by
 obtain⟨l1,l2,rfl⟩:=List.append_of_mem h
 exact⟨l1++l2,List.perm_middle⟩
theorem zkQ {a b:Nat × HObj} {H:q8} (h1:a∈H) (h2:b∈H) (hn:a.1≠b.1):∃r,H.Perm (a::b::r):=by
 obtain⟨r,hr⟩:=P0 h1
 have hb:b∈r:=by
  rcases List.mem_cons.1 (hr.mem_iff.1 h2)with e|h
  ·exact absurd (congrArg Prod.fst e).symm hn
  ·exact h
 obtain⟨r',hr'⟩:=P0 hb
 exact⟨r',hr.trans (List.Perm.cons _ hr')⟩
theorem znF {a b c:Nat × HObj} {H:q8} (h1:a∈H) (h2:b∈H) (h3:c∈H) (n1:a.1≠b.1) (n2:a.1≠c.1) (n3:b.1≠c.1):∃r,H.Perm (a::b::c::r):=by
 obtain⟨r,hr⟩:=P0 h1
 have mem:∀ {x},x∈H->a.1≠x.1->x∈r:=fun {x} hx hn=>by
  rcases List.mem_cons.1 (hr.mem_iff.1 hx)with e|h
  ·exact absurd (congrArg Prod.fst e).symm hn
  ·exact h
 obtain⟨r',hr'⟩:=zkQ (mem h2 n1) (mem h3 n2) n3
 exact⟨r',hr.trans (List.Perm.cons _ hr')⟩
theorem YT {H:q8} (hn:H.keys.Nodup) {a b:Nat × HObj} (h1:a∈H) (h2:b∈H) (ho:a.2≠b.2):a.1≠b.1:=by
 intro e
 obtain⟨r,hr⟩:=P0 h1
 have hb:b∈r:=by
  rcases List.mem_cons.1 (hr.mem_iff.1 h2)with e'|h
  ·exact absurd (congrArg Prod.snd e').symm ho
  ·exact h
 have hnd:((a::r).map (·.1)).Nodup:=(hr.map _).nodup_iff.1 hn
 rw[List.map_cons,List.nodup_cons]at hnd
 exact hnd.1 (e▸List.mem_map.2 ⟨b,hb,rfl⟩)
theorem YK {H:q8}:H.er=H<->∀x∈H,x.2.er=x.2:=by
 induction H with
 | nil=>simp
 | cons a r ih =>
  obtain⟨b,o⟩:=a
  rw[q8.er_cons]
  constructor
  ·intro h x hx
   have h1:=(List.cons.inj h)
   rcases List.mem_cons.1 hx with rfl|hx
   ·exact congrArg Prod.snd h1.1
   ·exact ih.1 h1.2 x hx
  ·intro h
   rw[ih.2 fun x hx=>h x (List.mem_cons_of_mem _ hx),show o.er=o from h (b,o) (by simp)]
theorem VB {H H':q8} (hp:H.Perm H') (h:H.er=H):H'.er=H':=YK.2 fun x hx=>YK.1 h x (hp.mem_iff.2 hx)
theorem zP.memS {p:zP} {R:Nat} {r:qG} {x:Nat × HObj} (h:x∈p.S):x∈p.core R r:=by
 unfold zP.core
 exact List.mem_cons_of_mem _ (List.mem_cons_of_mem _ (List.mem_append_right _ (List.mem_append_right _ h)))
theorem zeP (R:Nat) (e:Int) {r:qG} {H:q8} (h:qQ R r H):q7 Tryz.prog 150 [.av .ptr (.ptr R kO []),.av (.int .i64) (.i .i64 e)] H fun x H'=>x=.tup []/\qQ R (w6 e r) H':=by
 obtain⟨p,hp,rfl⟩:=h
 obtain⟨_,e2⟩:=hp.todo.er hp.tds
 refine q7.use (Hs:=[(R,qJ p.ta (zO r.env) r.buf p.K r.asks r.waits r.over)]) (rest:=(p.K,.map 9 74 (knE r.known))::(p.TA++(p.QH++p.S))) (List.Perm.refl _) (zh1 R e _ _ _ _ _ _ _ e2 (zH r.env)) ?_
 rintro x H' ⟨rfl,rfl⟩ _
 exact⟨_,HSub.refl _,rfl,p,⟨hp.todo,hp.seen,hp.box,hp.tds⟩,rfl⟩
theorem zl5 (R:Nat) (s:Txt) {r:qG} {H:q8} (h:qQ R r H) (hb:r.buf.length<=1000000000) (hs:s.length<=1000000000000000):q7 Tryz.prog 145 [.av .ptr (.ptr R kO []),.av .str (.s s)] H fun x H'=>x=.tup []/\qQ R (y6 s r) H':=by
 obtain⟨p,hp,rfl⟩:=h
 obtain⟨_,e2⟩:=hp.todo.er hp.tds
 refine q7.use (Hs:=[(R,qJ p.ta (zO r.env) r.buf p.K r.asks r.waits r.over)]) (rest:=(p.K,.map 9 74 (knE r.known))::(p.TA++(p.QH++p.S))) (List.Perm.refl _) (zjh R s _ _ _ _ _ _ _ e2 (zH r.env) hb hs) ?_
 rintro x H' ⟨rfl,rfl⟩ _
 refine⟨_,HSub.refl _,rfl,p,?_,?_⟩
 ·unfold y6
  split<;>exact⟨hp.todo,hp.seen,hp.box,hp.tds⟩
 ·unfold y6 zP.core
  split<;>rfl
theorem zos (R br:Nat) (x:KnV) {r:qG} {p:zP} (hp:p.OK R r) (hbr:(br,qV R)∈p.S) (hb:r.buf.length<=1000000000) (hx:x.is=true->x.data.length<=1000000000) :
  q7 Tryz.prog 146 [.av (q9 Tryz.prog 74) (jD x),.av .ptr (.ptr br .ptr [])] (p.core R r) fun y H'=>y=.tup []/\qQ R (coR .tr x r) H':=by
 have hH:qQ R r (p.core R r):=⟨p,hp,rfl⟩
 have her:=hH.er
 obtain⟨H,hHe⟩:∃H,H=p.core R r:=⟨_,rfl⟩
 have hm:(br,qV R)∈H:=hHe▸zP.memS hbr
 rw[<-hHe]at hH her |-
 obtain⟨rest,hpm⟩:=P0 hm
 have hre:=VB hpm her
 refine q7.sub (R:=fun y H'=>y=.tup []/\∃H2,Ab.HSub H2 H'/\qQ R (coR .tr x r) H2) ?_ fun y H' ⟨h1,H2,h2,h3⟩ _=>⟨H2,h2,h1,h3⟩
 refine q7.perm hpm ?_
 rw[q8.er_cons]at hre
 have hre2:=(List.cons.inj hre).2
 refine zov Tryz.func146 cf0 fun imm0 w0=>?_
 simp (disch:=omega) [zz,jD]
 cases hxi:x.is
 ·simp (disch:=omega) [zz,hxi]
  simp (disch:=omega) [zz,Tryz.f146,hre2,coR,hxi]
  exact⟨H,HSub.of_perm hpm.symm,hH⟩
 ·simp (disch:=omega) [zz,hxi,qV]
  refine qD (R:=fun y H'=>y=.tup []/\qQ R (y6 x.data r) H') H [] (by simpa[qV]using hpm.symm) rfl (by simp[qE]) (by simp) ?_ ?_
  ·rw[her]
   simpa[TV.er,AV.er]using zl5 R x.data hH hb (by have:=hx hxi;omega)
  rintro y H' ⟨rfl,hh⟩ _
  refine⟨H',by simpa using HSub.refl _,?_⟩
  have hhe:=hh.er
  simp (disch:=omega) [zz,Tryz.f146,hhe,coR,hxi]
  exact⟨H',HSub.refl _,hh⟩
end
section
variable [Sel]
theorem zf7 {P:Program} {l:Nat} {args:List TV} {H:q8} {R R':TV->q8->Prop} (h:YC P l args H R) (hr:∀r H',R r H'->H'.keys.Nodup->∃H'':q8,Ab.HSub H'' H'/\R' r H''):YC P l args H R':=by
 intro imm w vs h1 h2
 obtain⟨f,tmps,as',bo,h3,h4⟩:=h imm w vs h1 h2
 refine⟨f,tmps,as',bo,h3,RoundIn.mono h4 ?_⟩
 rintro e w' ⟨v,r,imm',H',a,b,c,d,st⟩
 obtain⟨H'',hs,hR⟩:=hr _ _ b d.nodup
 exact⟨v,r,imm',H'',a,hR,c,⟨d.imm,hs.nodup d.nodup,fun b o ho=>d.obj b o (hs.subset ho),d.tab⟩,⟨st.os,st.tape,st.output,st.size,st.frame,st.imm,st.kept,fun b hb=>st.dom b (hs.keys hb),st.drawn⟩⟩
end
section
variable [Sel] [SelPow] [SelMax]
theorem AT.absE {c:Ctx} {code:Code} {K:Exit->St->Prop} {s:St} (Q:(Nat->TV)->Prop) (h0:Q s.env) (h:∀E,Q E->AT c code K { s with env:=E }):AT c code K s:=h s.env h0
theorem zh3 {P:Program} {l:Nat} {args:List TV} {H H1:q8} {R:TV->q8->Prop} (hp:H1.Perm H) (h:YC P l args H R):YC P l args H1 R:=by
 intro imm w vs hrep h2
 have hr:Rep P (g0 imm) w H:=⟨hrep.imm,(hp.map _).nodup_iff.1 hrep.nodup,fun b o ho=>hrep.obj b o (hp.mem_iff.2 ho),hrep.tab⟩
 obtain⟨f,tmps,as',bo,h3,h4⟩:=h imm w vs hr h2
 refine⟨f,tmps,as',bo,h3,RoundIn.mono h4 ?_⟩
 rintro e w' ⟨v,r,imm',H',a,b,c,d,st⟩
 exact⟨v,r,imm',H',a,b,c,d,st.keys fun b=>((hp.map (·.1)).mem_iff).symm⟩
theorem zef {P:Program} {l:Nat} {args:List TV} {H:q8} {R:TV->q8->Prop} (h:H.keys.Nodup->YC P l args H R):YC P l args H R :=
 fun imm w vs h1 h2=>h h1.nodup imm w vs h1 h2
abbrev zfc:TyD:=.slice 9
noncomputable def bsO (l:List Txt):HObj:=.var zfc (.sl .no (strs l))
theorem zlQ (l:List Txt):(bsO l).er=bsO l:=by simp[bsO,HObj.er_var,AV.erk]
abbrev zqk:Cfg:=⟨fun n=>n==1,fun _=>false⟩
theorem zjG (l:List Txt):q7 Tryz.prog 174 [.av zfc (.sl .no (strs l))] [] fun r H'=>∃c,r=.av .func (.fn 194 [.ptr c zfc []])/\H'=[(c,bsO l)]:=by
 refine zov Tryz.func174 zqk fun imm0 w0=>?_
 simp (disch:=omega) [zz]
 intro c
 simp (disch:=omega) [zz,Tryz.f174,bsO,AV.ers]
theorem zhY {G:Nat->q8->Prop} (y c:Nat) (l:List Txt) (hl:l.length<=1000000000) (hGe:∀k H,G k H->H.er=H)
  (hY:∀k (hk:k<l.length) H,G k H->YC Tryz.prog y [.av (.int .i64) (.i .i64 (l.length-1-k:Nat)),.av .str (.s (l[l.length-1-k]'(by omega)))] H fun r H'=>r=.av .bool (.b true)/\G (k+1) H') :
  ∀H,G 0 H->q7 Tryz.prog 194 [.av .func (.yl y),.av .ptr (.ptr c zfc [])] ((c,bsO l)::H)
   fun r H'=>r=.tup []/\∃H1,G l.length H1/\H'=(c,bsO l)::H1:=by
 intro H hG
 have hbe:=zlQ l
 have hsl:∀x:List Txt,(strs x).length=x.length:=fun x=>by simp[strs]
 refine zov Tryz.func194 cf0 fun imm0 w0=>?_
 simp (disch:=omega) [zz,bsO,hsl]
 refine AT.loop' (α:=Nat × q8) (fun p=>St.of [(0,.av .func (.yl y)),(1,.av .ptr (.ptr c zfc [])),(3,.av (.int .i64) (.i .i64 ((l.length:Int)-1-p.1)))] [] (fun _=>0) ((c,bsO l)::p.2))
  (fun p=>p.1<=l.length/\G p.1 p.2) (fun p=>l.length-p.1) (0,H) ?_ ?_ ?_
 ·apply Le.of<;>simp[zR,qI,bsO]<;>try omega
 ·exact⟨by omega,hG⟩
 rintro⟨k,H1⟩ ⟨hk,hG1⟩ KL hN hE
 simp only at hk hG1 hN
 refine zrd cf0 ?_
 by_cases hlt:k<l.length
 ·obtain⟨i,hi⟩:∃i:Nat,i=l.length-1-k:=⟨_,rfl⟩
  have hii:(l.length:Int)-1-k=i:=by omega
  have hil:i<l.length:=by omega
  have hgi:(strs l)[i]?=some (.s l[i]):=by simp[strs,List.getElem?_eq_getElem hil]
  rw[hii]
  have hge:(0:Int)<=i:=by omega
  simp (disch:=omega) [zz,hge,bsO,hgi,hsl,hil]
  refine KA (R:=fun r H'=>r=.av .bool (.b true)/\G (k+1) H') H1 [(c,bsO l)] (List.perm_append_comm (l₁:=[_])) (by simp[qE]) ?_ ?_
  ·rw[hGe _ _ hG1]
   have:=hY k hlt _ hG1
   simpa[TV.er,<-hi]using this
  rintro r H2 ⟨rfl,hG2⟩ _
  refine⟨(c,bsO l)::H2,HSub.of_perm (List.perm_append_comm (l₂:=[_])),?_⟩
  simp (disch:=omega) [zz]
  refine hN _ (k+1,H2) ?_ ⟨by omega,hG2⟩ (by simp only;omega)
  apply Le.of<;>simp[zR,qI,bsO]<;>try omega
 ·have hge:(l.length:Int)-1-k=-1:=by omega
  rw[hge]
  simp (disch:=omega) [zz]
  refine hE _ _ (by simp) ?_
  have hkl:k=l.length:=by omega
  subst hkl
  have hH:=hGe _ _ hG1
  simp (disch:=omega) [zz,Tryz.f194,hH,hbe]
  exact⟨hG1,by first|rfl|simp[bsO]⟩
end
end Go.Proofs.YtdkieabmeiojjaaGreatDoor
