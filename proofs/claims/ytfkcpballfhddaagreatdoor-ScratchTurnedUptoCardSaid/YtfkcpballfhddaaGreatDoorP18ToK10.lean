/- strings. No condition. -/
import Derived.Test.YtfkcpballfhddaaGreatDoorRW3ToK6
set_option linter.unusedSimpArgs false
set_option linter.unusedVariables false
set_option linter.unusedSectionVars false
set_option maxHeartbeats 64000000
set_option maxRecDepth 100000
namespace Go.Proofs.YtfkcpballfhddaaGreatDoor
open Go Go.Ab
open Classical
section
variable [Sel]
@[simp] theorem ztJ:q9 Tryz.prog 258=.other:=by kernel_rfl
@[simp] theorem ztt:qX Tryz.prog (.func 210)=true:=by kernel_rfl
theorem zrG:zsD Tryz.prog (.func 210):=⟨_,Tryz.func210,by kernel_rfl,by kernel_rfl,by kernel_rfl,by kernel_rfl⟩
abbrev J6:TyD:=.struct [234,206]
def bys (l:List UInt8):List AV:=l.map fun b=>.i .u8 b.toNat
@[simp] theorem zrq (l:List UInt8):(bys l).length=l.length:=by simp[bys]
@[simp] theorem zsi (l:List UInt8):AV.erks (bys l)=bys l:=by simp[bys,AV.erks_eq,AV.erk,Function.comp_def]
@[simp] theorem zt2 (l:List UInt8):AV.ers (bys l)=bys l:=by simp[bys,AV.ers_eq,AV.er,Function.comp_def]
theorem zed (a b:List UInt8):bys a++bys b=bys (a++b):=by simp[bys]
theorem zf0 (l:List UInt8) (n:Nat):(bys l).take n=bys (l.take n):=by simp[bys,List.map_take]
theorem znB (l:List UInt8) (n:Nat):(bys l).drop n=bys (l.drop n):=by simp[bys,List.map_drop]
theorem zjA (n:Nat):List.replicate n (AV.i .u8 0)=bys (List.replicate n 0):=by simp[bys]
theorem xZ:∀l,bytesOf (bys l)=some l
 | []=>rfl
 | b::l=>by
  have:=xZ l
  simp only[bys,List.map_cons,bytesOf]at this |-
  rw[this]
  simp
theorem zlU (b:Nat) (buf:AV) (hb:buf.erk=buf):q7 Tryz.prog 205 [.av .ptr (.ptr b J6 [])] [(b,.var J6 (.agg [.nilptr,buf]))] fun r H'=>r=.tup []/\H'=[(b,.var J6 (.agg [.ptr b J6 [],buf]))]:=by
 refine zov Tryz.func205 cf0 fun imm0 w0=>?_
 simp (disch:=omega) [zz]
 refine⟨by kernel_rfl,zrG,by kernel_rfl,?_⟩
 simp (disch:=omega) [zz,Tryz.f205,hb]
theorem zq4 (b:Nat) (buf:AV) (hb:buf.erk=buf):q7 Tryz.prog 205 [.av .ptr (.ptr b J6 [])] [(b,.var J6 (.agg [.ptr b J6 [],buf]))] fun r H'=>r=.tup []/\H'=[(b,.var J6 (.agg [.ptr b J6 [],buf]))]:=by
 refine zov Tryz.func205 cf0 fun imm0 w0=>?_
 simp (disch:=omega) [zz]
 refine⟨by kernel_rfl,?_⟩
 simp (disch:=omega) [zz,Tryz.f205,hb]
inductive BS (b:Nat) (bs:List UInt8):q8->Prop
 | fresh (p:AV) (hp:p=.nilptr\/p=.ptr b J6 []) (h:bs=[]):BS b bs [(b,.var J6 (.agg [p,.nsl]))]
 | row (p:AV) (hp:p=.nilptr\/p=.ptr b J6 []) (r cap:Nat) (rs:List UInt8) (hc:bs.length+rs.length=cap) (h0:0<cap):BS b bs [(b,.var J6 (.agg [p,.msl r 5 0 bs.length cap])),(r,.var (.arr cap 5) (.agg (bys (bs++rs))))]
theorem zlH (b:Nat) (p buf:AV) (hp:p=.nilptr\/p=.ptr b J6 []) (hb:buf.erk=buf):q7 Tryz.prog 205 [.av .ptr (.ptr b J6 [])] [(b,.var J6 (.agg [p,buf]))] fun r H'=>r=.tup []/\H'=[(b,.var J6 (.agg [.ptr b J6 [],buf]))]:=by
 rcases hp with rfl|rfl
 ·exact zlU b buf hb
 ·exact zq4 b buf hb
theorem BS.er {b:Nat} {bs:List UInt8} {H:q8} (h:BS b bs H):H.er=H:=by
 cases h with
 | fresh p hp h=>rcases hp with rfl|rfl<;>simp[q8.er,HObj.er,AV.erk,AV.erks]
 | row p hp r cap rs hc h0=>rcases hp with rfl|rfl<;>simp[q8.er,HObj.er,AV.erk,AV.erks]
def BSs (b:Nat) (bs:List UInt8) (H:q8):Prop:=∃H2,HSub H2 H/\BS b bs H2
theorem q7.bss {P:Program} {f:FuncId} {args:List TV} {H:q8} {r0:TV} {b:Nat} {bs:List UInt8} (h:q7 P f args H fun r H'=>r=r0/\BSs b bs H'):q7 P f args H fun r H'=>r=r0/\BS b bs H' :=
 h.sub fun r H' ⟨h1,H2,h2,h3⟩ _=>⟨H2,h2,h1,h3⟩
theorem zs9 (b:Nat) (bs x:List UInt8) (H:q8) (hB:BS b bs H) (hl:bs.length+x.length<=100000000000) :
  q7 Tryz.prog 190 [.av .ptr (.ptr b J6 []),.av .str (.s x)] H fun r H'=>r=.tup [(.int .i64,.i .i64 x.length),(.iface,.nilifc)]/\BS b (bs++x) H':=by
 refine q7.bss <| q7.nodup fun hnd=>?_
 have ebx:(x.map fun b=>AV.i .u8 b.toNat)=bys x:=rfl
 cases hB with
 | fresh p hp h =>
  subst h
  simp at hl
  refine zov Tryz.func190 cf0 fun imm0 w0=>?_
  simp (disch:=omega) [zz]
  refine wZ (R:=fun r H'=>r=.tup []/\H'=[(b,.var J6 (.agg [.ptr b J6 [],.nsl]))]) rfl (by simp[qI]) (by simp) ?_ ?_
  ·have hpe:p.erk=p:=by rcases hp with rfl|rfl<;>rfl
   simpa[TV.er,AV.er,q8.er_cons,q8.er_nil,HObj.er,AV.erk,AV.erks,hpe]using zlH b p .nsl hp rfl
  rintro r H' ⟨rfl,rfl⟩
  simp (disch:=omega) [zz]
  refine⟨by omega,fun hx=>?_,fun hx r cap hr hcap=>?_⟩
  ·subst hx
   simp (disch:=omega) [zz,Tryz.f190]
   exact⟨_,HSub.refl _,.fresh _ (.inr rfl) rfl⟩
  ·have hr':¬b=r:=fun e=>hr e.symm
   simp (disch:=omega) [zz,Tryz.f190,hr,hr',ebx,zjA,zed]
   refine⟨_,HSub.of_perm (List.Perm.swap _ _ _),?_⟩
   have:=BS.row (b:=b) (bs:=x) (.ptr b J6 []) (.inr rfl) r cap (List.replicate (cap-x.length) 0) (by simp;omega) (by omega)
   exact this
 | row p hp r cap rs hc h0 =>
  simp[q8.keys]at hnd
  have hnd':¬r=b:=fun e=>hnd e.symm
  have etk:(bys (bs++rs)).take bs.length=bys bs:=by rw[zf0,List.take_left]
  have edr:(bys (bs++rs)).drop (bs.length+x.length)=bys (rs.drop x.length):=by
   rw[znB,List.drop_append,List.drop_eq_nil_of_le (by omega),List.nil_append,Nat.add_sub_cancel_left]
  refine zov Tryz.func190 cf0 fun imm0 w0=>?_
  simp (disch:=omega) [zz]
  refine qD (R:=fun r' H'=>r'=.tup []/\H'=[(b,.var J6 (.agg [.ptr b J6 [],.msl r 5 0 bs.length cap]))]) [(b,.var J6 (.agg [p,.msl r 5 0 bs.length cap]))] [(r,.var (.arr cap 5) (.agg (bys (bs++rs))))] (List.Perm.refl _) rfl (by simp[qI]) (by simp) ?_ ?_
  ·have hpe:p.erk=p:=by rcases hp with rfl|rfl<;>rfl
   simpa[TV.er,AV.er,q8.er_cons,q8.er_nil,HObj.er,AV.erk,AV.erks,hpe]using zlH b p (.msl r 5 0 bs.length cap) hp rfl
  rintro r' H' ⟨rfl,rfl⟩ _
  refine⟨_,HSub.refl _,?_⟩
  simp (disch:=omega) [zz,hnd,hnd',etk,edr,ebx,zed]
  refine⟨by omega,by omega,fun hx=>?_,fun hx r2 cap2 hr2 hr2' hcap2=>?_⟩
  ·simp (disch:=omega) [zz,Tryz.f190,hnd,hnd']
   refine⟨_,HSub.refl _,?_⟩
   have:=BS.row (b:=b) (bs:=bs++x) (.ptr b J6 []) (.inr rfl) r cap (rs.drop x.length) (by simp;omega) h0
   simpa using this
  ·have hr2b:¬b=r2:=fun e=>hr2 e.symm
   simp (disch:=omega) [zz,Tryz.f190,hr2,hr2b,hr2',hnd,hnd',zjA,zed]
   refine⟨_,⟨_,List.Perm.swap _ _ _,((List.Sublist.refl _).cons _).cons_cons _ |>.cons_cons _⟩,?_⟩
   have:=BS.row (b:=b) (bs:=bs++x) (.ptr b J6 []) (.inr rfl) r2 cap2 (List.replicate (cap2-(bs.length+x.length)) 0) (by simp;omega) (by omega)
   simpa using this
theorem zcN (b:Nat) (bs:List UInt8) (H:q8) (hB:BS b bs H) (hl:bs.length<=100000000000) :
  q7 Tryz.prog 191 [.av .ptr (.ptr b J6 [])] H fun r H'=>r=.av .str (.s bs):=by
 refine q7.nodup fun hnd=>?_
 cases hB with
 | fresh p hp h =>
  subst h
  refine zov Tryz.func191 cf0 fun imm0 w0=>?_
  simp (disch:=omega) [zz,Tryz.f191]
  (show GO _ _=true;kernel_rfl)
 | row p hp r cap rs hc h0 =>
  simp[q8.keys]at hnd
  have hnd':¬r=b:=fun e=>hnd e.symm
  have hc0:¬cap=0:=by omega
  have etk:(bys (bs++rs)).take bs.length=bys bs:=by rw[zf0,List.take_left]
  have hbo:=xZ bs
  refine zov Tryz.func191 cf0 fun imm0 w0=>?_
  simp (disch:=omega) [zz,hnd,hnd',etk,hc0,hbo]
  refine⟨(show GO _ _=true by kernel_rfl),by kernel_rfl,by omega,by omega,?_⟩
  simp (disch:=omega) [zz,Tryz.f191]
end
section
variable [Sel] [SelPow] [SelMax]
theorem zmu {s sub:List UInt8} {i:Nat} (h1:i<=s.length) (h2:Lib.occAt s sub i=true):∃m:Nat,Lib.index s sub=m/\Lib.occAt s sub m=true/\m<=s.length:=by
 induction i using Nat.strongRecOn with
 | ind i ih =>
  by_cases hf:∀j,j<i->Lib.occAt s sub j=false
  ·exact⟨i,Lib.index_first h1 h2 hf,h2,h1⟩
  ·obtain⟨j,hj⟩:=Classical.not_forall.1 hf
   obtain⟨hji,hj2⟩:=Classical.not_imp.1 hj
   exact ih j hji (by omega) (by simpa using hj2)
theorem xU:∀ {l cur x:List UInt8},x∈jZ cur l->∃a b,cur++l=a++x++b
 | [],cur,x,h=>by
  unfold jZ at h
  split at h
  ·cases h
  ·simp only[List.mem_singleton]at h;subst h;exact⟨[],[],by simp⟩
 | c::r,cur,x,h=>by
  unfold jZ at h
  split at h
  ·split at h
   ·rename_i hc
    obtain⟨a,b,e⟩:=xU h
    subst hc
    refine⟨c::a,b,?_⟩
    simp only[List.nil_append]at e |-
    rw[e];simp
   ·rcases List.mem_cons.1 h with rfl|h
    ·exact⟨[],c::r,by simp⟩
    ·obtain⟨a,b,e⟩:=xU h
     refine⟨cur++c::a,b,?_⟩
     simp only[List.nil_append]at e
     rw[e];simp
  ·obtain⟨a,b,e⟩:=xU h
   exact⟨a,b,by rw[<-e];simp⟩
theorem zh8 {s:Txt} (h:zH∈z6 s):∃m:Nat,Lib.index s zH=m/\m+4<=s.length:=by
 obtain⟨a,b,e⟩:=xU h
 simp only[List.nil_append]at e
 have hocc:Lib.occAt s zH a.length=true:=by
  unfold Lib.occAt
  rw[e]
  simp[List.isPrefixOf_iff_prefix]
 obtain⟨m,h1,h2,h3⟩:=zmu (by rw[e];simp) hocc
 refine⟨m,h1,?_⟩
 rcases Lib.occAt_room h2 with h|h
 ·exact h
 ·cases h
noncomputable def w5 (c:CmdV):HObj:=.var ZR (zX c)
def XL (x:Option (Option CmdV)) (r:TV) (H':q8):Prop:=match x with
 | none=>r=.tup [(.ptr,.nilptr),(.bool,.b false)]/\H'=[]
 | some none=>r=.tup [(.ptr,.nilptr),(.bool,.b true)]/\H'=[]
 | some (some c)=>∃b,r=.tup [(.ptr,.ptr b ZR []),(.bool,.b true)]/\H'=[(b,w5 c)]
theorem zcb (l:Txt) (hl:l.length<=1000000):PC Tryz.prog 188 [.av .str (.s l)] (.av .str (.s l)):=by
 unfold PC
 refine q7.sub (R:=fun r H'=>r=.av .str (.s l)) ?_ (fun r H' hr _=>⟨[],HSub.of_sub (List.nil_sublist _),hr,rfl⟩)
 refine zov Tryz.func188 cf0 fun imm0 w0=>?_
 by_cases h0:l=[]
 ·subst h0
  simp (disch:=omega) [zz,Tryz.f188]
 ·have hp:0<l.length:=List.length_pos_iff.2 h0
  have h0':¬(l.length:Int)=0:=by omega
  have hbo:bytesOf (List.take l.length (l.map fun b=>AV.i .u8 (b.toNat:Int)))=some l:=by
   rw[List.take_of_length_le (by simp)]
   exact xZ l
  simp (disch:=omega) [zz,h0,h0']
  refine⟨by omega,by omega,fun b=>⟨hp,by kernel_rfl,by omega,?_⟩⟩
  rw[hbo]
  simp (disch:=omega) [zz,Tryz.f188]
theorem cH (l:Txt) (hl:l.length<=1000000):PC Tryz.prog 164 [.av .str (.s l)] (.av .str (.s l)):=by
 refine zow Tryz.func164 cf0 fun imm0 w0=>?_
 simp (disch:=omega) [zz]
 refine zcv (zcb l hl) ?_
 simp (disch:=omega) [zz,Tryz.f164]
theorem zkl (n:Txt) (h:(kG n).2=true):(kG n).1=2\/(kG n).1=3:=by
 unfold kG at h |-
 by_cases a:n=qW\/n=jD\/n=qV
 ·rw[if_pos a];simp
 rw[if_neg a]at h |-
 by_cases b:n=zC
 ·rw[if_pos b];simp
 rw[if_neg b]at h |-
 by_cases c:n=jL\/n=zS\/n=zL
 ·rw[if_pos c]at h;cases h
 rw[if_neg c]at h
 by_cases d:n=zR\/n=zW\/n=qY\/n=z7\/n=zZ
 ·rw[if_pos d]at h;cases h
 ·rw[if_neg d]at h;cases h
abbrev ztA:Cfg:=⟨fun n=>n==38||n==66,fun n=>n==1000006||n==2000038⟩
theorem zon (l:Txt) (hl:l.length<=1000000):q7 Tryz.prog 137 [.av .str (.s l)] [] (XL (JF l)):=by
 obtain⟨X,hX⟩:∃X,JF l=X:=⟨_,rfl⟩
 rw[hX]
 unfold JF at hX
 obtain⟨ws,hws⟩:∃ws,z6 l=ws:=⟨_,rfl⟩
 have hw:=zg2 l hl
 have heach:∀w∈ws,w≠[]/\w.length<=l.length:=fun w hw=>by
  rw[<-hws]at hw
  have:=ZZ hw
  exact⟨this.1,by simpa using this.2⟩
 have htx:zH∈ws->∃m:Nat,Lib.index l zH=m/\m+4<=l.length:=fun h=>zh8 (hws▸h)
 have hwl:ws.length<=l.length+1:=by rw[<-hws];exact uB
 rw[hws]at hX hw
 refine zov Tryz.func137 ztA fun imm0 w0=>?_
 simp (disch:=omega) [zz]
 refine zcv hw ?_
 match ws,hX,heach,htx,hwl with
 | [],hX,_,_,_ =>
  simp only at hX
  simp (disch:=omega) [zz,strs,Tryz.f137,<-hX,XL]
 | w::wr,hX,heach,htx,hwl =>
  simp only at hX
  obtain⟨hne,hwlen⟩:=heach w (by simp)
  obtain⟨c,w',rfl⟩:=List.exists_cons_of_ne_nil hne
  have hnz:¬(wr.length:Int)+1=0:=by omega
  by_cases hc:c=35
  ·subst hc
   rw[if_pos (show ((35:UInt8)::w').head?=some 35 from rfl)]at hX
   simp (disch:=omega) [zz,strs,hnz]
   simp (disch:=omega) [zz,Tryz.f137,<-hX,XL]
  rw[if_neg (by simpa using hc)]at hX
  have hc':¬(c.toNat:Int)=35:=by have:=vI (n:=35) (by omega) hc;simpa using this
  by_cases htt:c::w'=zH
  ·rw[if_pos htt]at hX
   obtain⟨m,hm,hml⟩:=htx (by rw[<-htt];simp)
   have hcc:c=116/\w'=[101,120,116]:=by simpa[zH]using htt
   obtain⟨rfl,rfl⟩:=hcc
   simp (disch:=omega) [zz,strs,hnz,hc']
   refine qG (znT l zH (by omega)) rfl rfl (by simp) (by simp[qM,coC,TV.er,AV.er,zH]) ?_
   rw[hm]
   have h4:(0:Int)<=(m:Int)+4:=by omega
   have h4':(m:Int)+4<=l.length:=by omega
   simp (disch:=omega) [zz,h4,h4']
   refine kI.of [0,1,2,3,4,5,6,7,8,9,10,11] [] (by kernel_rfl) ?_
   obtain⟨rs,hrs⟩:∃rs,rs=l.drop (m+4):=⟨_,rfl⟩
   have hrest:List.drop 1 (List.drop ((Lib.index l zH).toNat+4) l)=rs.drop 1:=by rw[hm,hrs];rfl
   rw[hrest]at hX
   have hmn:min 1 rs.length<=rs.length:=Nat.min_le_right _ _
   by_cases hr1:rs.length<1
   ·have hr1':(rs.length:Int)<1:=by omega
    have hrn:rs=[]:=List.length_eq_zero_iff.1 (by omega)
    subst hrn
    simp (disch:=omega) [zz,h4,h4',<-hrs]
    (repeat with_reducible refine om ?_)
    refine y9 (cH [] (by simp)) rfl rfl (by simp) (by simp[qM,TV.er,AV.er]) ?_
    simp (disch:=omega) [zz]
    (repeat with_reducible refine om ?_)
    intro bb
    simp (disch:=omega) [zz,Tryz.f137,<-hX,XL]
    simp[w5,zX,strs,AV.ers_eq,Function.comp_def,AV.er]
   ·have hr1':¬(rs.length:Int)<1:=by omega
    have hr2:1<=rs.length:=by omega
    have hrl:rs.length<=l.length:=by rw[hrs,List.length_drop];omega
    simp (disch:=omega) [zz,h4,h4',<-hrs,hr1',hr2]
    (repeat with_reducible refine om ?_)
    refine y9 (cH (rs.drop 1) (by rw[List.length_drop];omega)) rfl rfl (by simp) (by simp[qM,TV.er,AV.er]) ?_
    simp (disch:=omega) [zz]
    (repeat with_reducible refine om ?_)
    intro bb
    simp (disch:=omega) [zz,Tryz.f137,<-hX,XL]
    simp[w5,zX,strs,AV.ers_eq,Function.comp_def,AV.er]
  rw[if_neg htt]at hX
  have htt':¬(c=116/\w'=[101,120,116]):=by simpa[zH]using htt
  simp (disch:=omega) [zz,strs,hnz,hc',htt']
  refine zcv (zn1 (c::w')) ?_
  have htk:=zkl (c::w')
  obtain⟨tk,htke⟩:∃x,x=kG (c::w'):=⟨_,rfl⟩
  obtain⟨tn,tp⟩:=tk
  rw[<-htke]at hX htk |-
  simp only at hX htk |-
  by_cases h1:tn=(wr.length:Int)+1
  rotate_left
  ·rw[if_pos (.inl h1)]at hX
   simp (disch:=omega) [zz,h1]
   simp (disch:=omega) [zz,Tryz.f137,<-hX,XL]
  subst h1
  have hz:¬(wr.length:Int)+1=0:=by omega
  cases tp with
  | false =>
   rw[if_neg (by simp;omega)]at hX
   simp (disch:=omega) [zz,hz]
   intro bb
   simp (disch:=omega) [zz,Tryz.f137,<-hX,XL]
   simp[w5,zX,strs,AV.ers_eq,Function.comp_def,AV.er]
  | true =>
   have hwr:wr≠[]:=by
    rintro rfl
    have:=htk rfl
    simp at this
   obtain⟨p,wr',rfl⟩:=List.exists_cons_of_ne_nil hwr
   have hpl:=(heach p (by simp)).2
   have hz2:¬(wr'.length:Int)+1+1=0:=by omega
   have hz3:(1:Int)<(wr'.length:Int)+1+1:=by omega
   simp (disch:=omega) [zz,hz,hz2,hz3]
   refine zcv (XJ p (by omega)) ?_
   cases hmv:jQ p
   ·rw[if_pos (by simp[hmv])]at hX
    simp (disch:=omega) [zz,hmv]
    simp (disch:=omega) [zz,Tryz.f137,<-hX,XL]
   ·rw[if_neg (by simp[hmv];omega)]at hX
    simp (disch:=omega) [zz,hmv]
    intro bb
    simp (disch:=omega) [zz,Tryz.f137,<-hX,XL]
    simp[w5,zX,strs,AV.ers_eq,Function.comp_def,AV.er]
noncomputable def zE (p:Txt):HObj:=.var .str (.s p)
noncomputable def QF (v:AV):HObj:=.var .func v
noncomputable def WJ (Q:Nat):HObj:=.var XZ (.map (some Q))
def zgS (R:Nat) (q:Option Nat) (S:q8):ThV->AV->Prop
 | .add,v=>v=.bm 141 [.ptr R wH []]
 | .scan w,v=>∃Q br bw bs,q=some Q/\v=.fn 168 [.ptr br .ptr [],.ptr bw .str [],.ptr bs XZ []]/\(br,zJ R)∈S/\(bw,zE w)∈S/\(bs,WJ Q)∈S
def GH (R:Nat) (q:Option Nat) (S:q8):CoV->AV->Prop
 | .there t,v=>∃br bt tv,v=.fn 167 [.ptr br .ptr [],.ptr bt .func []]/\(br,zJ R)∈S/\(bt,QF tv)∈S/\zgS R q S t tv
 | .tr,v=>∃br,v=.fn 142 [.ptr br .ptr []]/\(br,zJ R)∈S
def CH (R:Nat) (q:Option Nat) (S:q8):TdV->AV->Prop
 | .cmd c,v=>∃br bc,v=.fn 111 [.ptr br .ptr [],.ptr bc ZR []]/\(br,zJ R)∈S/\(bc,w5 c)∈S
 | .ans k p,v=>∃bt br bp kv,v=.fn 166 [.ptr bt .func [],.ptr br .ptr [],.ptr bp .str []]/\(bt,QF kv)∈S/\(br,zJ R)∈S/\(bp,zE p)∈S/\GH R q S k kv
 | .line s w,v=>∃Q bs bw br bm,q=some Q/\v=.fn 170 [.ptr bs .str [],.ptr bw .str [],.ptr br .ptr [],.ptr bm XZ []]/\bs≠bw/\(bs,zE s)∈S/\(bw,zE w)∈S/\(br,zJ R)∈S/\(bm,WJ Q)∈S
theorem zgS.mono {R:Nat} {q:Option Nat} {S S':q8} (h:∀x∈S,x∈S'):∀ {t:ThV} {v:AV},zgS R q S t v->zgS R q S' t v
 | .add,_,e=>e
 | .scan _,_,⟨Q,br,bw,bs,e0,e,h1,h2,h3⟩=>⟨Q,br,bw,bs,e0,e,h _ h1,h _ h2,h _ h3⟩
theorem GH.mono {R:Nat} {q:Option Nat} {S S':q8} (h:∀x∈S,x∈S'):∀ {t:CoV} {v:AV},GH R q S t v->GH R q S' t v
 | .there _,_,⟨br,bt,tv,e,h1,h2,h3⟩=>⟨br,bt,tv,e,h _ h1,h _ h2,h3.mono h⟩
 | .tr,_,⟨br,e,h1⟩=>⟨br,e,h _ h1⟩
theorem CH.mono {R:Nat} {q:Option Nat} {S S':q8} (h:∀x∈S,x∈S'):∀ {t:TdV} {v:AV},CH R q S t v->CH R q S' t v
 | .cmd _,_,⟨br,bc,e,h1,h2⟩=>⟨br,bc,e,h _ h1,h _ h2⟩
 | .ans _ _,_,⟨bt,br,bp,kv,e,h1,h2,h3,h4⟩=>⟨bt,br,bp,kv,e,h _ h1,h _ h2,h _ h3,h4.mono h⟩
 | .line _ _,_,⟨Q,bs,bw,br,bm,e0,e,hn,h1,h2,h3,h4⟩=>⟨Q,bs,bw,br,bm,e0,e,hn,h _ h1,h _ h2,h _ h3,h _ h4⟩
theorem zgS.er {R:Nat} {q:Option Nat} {S:q8} {t:ThV} {v:AV} (h:zgS R q S t v):v.er=v/\v.erk=v:=by
 cases t with
 | add=>rw[show v=_ from h];exact⟨rfl,rfl⟩
 | scan w=>obtain⟨_,_,_,_,_,rfl,_⟩:=h;exact⟨rfl,rfl⟩
theorem GH.er {R:Nat} {q:Option Nat} {S:q8} {t:CoV} {v:AV} (h:GH R q S t v):v.er=v/\v.erk=v:=by
 cases t with
 | there t=>obtain⟨_,_,_,rfl,_⟩:=h;exact⟨rfl,rfl⟩
 | tr=>obtain⟨_,rfl,_⟩:=h;exact⟨rfl,rfl⟩
theorem CH.erk {R:Nat} {q:Option Nat} {S:q8} {t:TdV} {v:AV} (h:CH R q S t v):v.erk=v:=by
 cases t with
 | cmd c=>obtain⟨_,_,rfl,_⟩:=h;rfl
 | ans k p=>obtain⟨_,_,_,_,rfl,_⟩:=h;rfl
 | line s w=>obtain⟨_,_,_,_,_,_,rfl,_⟩:=h;rfl
inductive QG (R:Nat) (q:Option Nat) (S:q8):List TdV->List AV->Prop
 | nil:QG R q S [] []
 | cons {t v ts vs}:CH R q S t v->QG R q S ts vs->QG R q S (t::ts) (v::vs)
theorem QG.mono {R:Nat} {q:Option Nat} {S S':q8} (h:∀x∈S,x∈S') {ts:List TdV} {vs:List AV} (hh:QG R q S ts vs):QG R q S' ts vs:=by
 induction hh with
 | nil=>exact .nil
 | cons a _ ih=>exact .cons (a.mono h) ih
theorem QG.len {R:Nat} {q:Option Nat} {S:q8} {ts:List TdV} {vs:List AV} (hh:QG R q S ts vs):ts.length=vs.length:=by
 induction hh with
 | nil=>rfl
 | cons _ _ ih=>simp[ih]
theorem QG.app {R:Nat} {q:Option Nat} {S:q8} {ts us:List TdV} {vs ws:List AV} (h1:QG R q S ts vs) (h2:QG R q S us ws):QG R q S (ts++us) (vs++ws):=by
 induction h1 with
 | nil=>exact h2
 | cons a _ ih=>exact .cons a ih
theorem QG.snoc {R:Nat} {q:Option Nat} {S:q8}:∀ {ts:List TdV} {t:TdV} {vs:List AV},QG R q S (ts++[t]) vs->∃us v,vs=us++[v]/\QG R q S ts us/\CH R q S t v
 | [],t,vs,h=>by
  cases h with
  | cons a b=>cases b;exact⟨[],_,rfl,.nil,a⟩
 | x::ts,t,vs,h=>by
  cases h with
  | cons a b =>
   obtain⟨us,v,rfl,h1,h2⟩:=QG.snoc b
   exact⟨_::us,v,rfl,.cons a h1,h2⟩
theorem QG.jk {R:Nat} {q:Option Nat} {S:q8} {ts:List TdV} {vs:List AV} (hh:QG R q S ts vs):JK vs:=by
 unfold JK
 induction hh with
 | nil=>rfl
 | cons a _ ih=>rw[AV.erks_eq]at *;simp[a.erk,ih]
def zcH (fs:List AV) (ta:AV) (TA:q8):Prop:=(fs=[]/\ta=.nsl/\TA=[])\/∃T cap j,JK j/\ta=.msl T 1 0 fs.length cap/\fs.length+j.length=cap/\TA=[(T,.var (.arr cap 1) (.agg (fs++j)))]
def zoa (q:Option Nat) (l:List Txt) (QH:q8):Prop:=(q=none/\QH=[])\/∃Q,q=some Q/\QH=[(Q,.map 9 4 (uX l))]
structure jF where
 K:Nat
 q:Option Nat
 QH:q8
 TA:q8
 S:q8
 fs:List AV
 ta:AV
noncomputable def jF.core (p:jF) (R:Nat) (r:qN):q8:=(R,qP p.ta (j6 r.env) r.buf p.K r.asks r.waits r.over)::(p.K,.map 9 68 (knE r.known))::(p.TA++(p.QH++p.S))
structure jF.OK (p:jF) (R:Nat) (r:qN):Prop where
 todo:zcH p.fs p.ta p.TA
 seen:zoa p.q r.seen p.QH
 box:p.S.er=p.S
 tds:QG R p.q p.S r.todo p.fs
def z8 (R:Nat) (r:qN) (H:q8):Prop:=∃p:jF,p.OK R r/\H=p.core R r
theorem zcH.er {R:Nat} {q:Option Nat} {S:q8} {ts:List TdV} {fs:List AV} {ta:AV} {TA:q8} (h:zcH fs ta TA) (h2:QG R q S ts fs):TA.er=TA/\ta.erk=ta:=by
 rcases h with⟨rfl,rfl,rfl⟩|⟨T,cap,j,hj,rfl,hc,rfl⟩
 ·exact⟨rfl,rfl⟩
 ·have:=h2.jk.app hj
  refine⟨?_,rfl⟩
  simp only[q8.er_cons,q8.er_nil,HObj.er_var,AV.erk]
  rw[show AV.erks (fs++j)=fs++j from this]
theorem zoa.er {q:Option Nat} {l:List Txt} {QH:q8} (h:zoa q l QH):QH.er=QH:=by
 rcases h with⟨_,rfl⟩|⟨Q,_,rfl⟩
 ·rfl
 ·simp[q8.er_cons,HObj.er_map,uX,AV.er,Function.comp_def]
theorem j8 (l:List (Txt × Txt)):(j6 l).erk=j6 l:=by simp[j6,AV.erk,AV.ers_eq,WR,Function.comp_def,AV.er,AV.ers]
theorem zo7 (l:List KnV):(HObj.map 9 68 (knE l)).er=.map 9 68 (knE l):=by
 simp[HObj.er_map,knE,kA,AV.er,AV.ers,Function.comp_def]
theorem z8.er {R:Nat} {r:qN} {H:q8} (h:z8 R r H):H.er=H:=by
 obtain⟨p,hp,rfl⟩:=h
 obtain⟨e1,e2⟩:=hp.todo.er hp.tds
 have e3:=JR (buf:=r.buf) (K:=p.K) (asks:=r.asks) (waits:=r.waits) (over:=r.over) e2 (j8 r.env)
 simp only[jF.core,q8.er_cons,q8.er_app,e1,hp.seen.er,hp.box,e3,zo7]
theorem C3 {a:Nat × HObj} {H:q8} (h:a∈H):∃r,H.Perm (a::r):=by
 obtain⟨l1,l2,rfl⟩:=List.append_of_mem h
 exact⟨l1++l2,List.perm_middle⟩
theorem znx {a b:Nat × HObj} {H:q8} (h1:a∈H) (h2:b∈H) (hn:a.1≠b.1):∃r,H.Perm (a::b::r):=by
 obtain⟨r,hr⟩:=C3 h1
 have hb:b∈r:=by
  rcases List.mem_cons.1 (hr.mem_iff.1 h2)with e|h
  ·exact absurd (congrArg Prod.fst e).symm hn
  ·exact h
 obtain⟨r',hr'⟩:=C3 hb
 exact⟨r',hr.trans (List.Perm.cons _ hr')⟩
theorem zqu {a b c:Nat × HObj} {H:q8} (h1:a∈H) (h2:b∈H) (h3:c∈H) (n1:a.1≠b.1) (n2:a.1≠c.1) (n3:b.1≠c.1):∃r,H.Perm (a::b::c::r):=by
 obtain⟨r,hr⟩:=C3 h1
 have mem:∀ {x},x∈H->a.1≠x.1->x∈r:=fun {x} hx hn=>by
  rcases List.mem_cons.1 (hr.mem_iff.1 hx)with e|h
  ·exact absurd (congrArg Prod.fst e).symm hn
  ·exact h
 obtain⟨r',hr'⟩:=znx (mem h2 n1) (mem h3 n2) n3
 exact⟨r',hr.trans (List.Perm.cons _ hr')⟩
theorem XB {H:q8} (hn:H.keys.Nodup) {a b:Nat × HObj} (h1:a∈H) (h2:b∈H) (ho:a.2≠b.2):a.1≠b.1:=by
 intro e
 obtain⟨r,hr⟩:=C3 h1
 have hb:b∈r:=by
  rcases List.mem_cons.1 (hr.mem_iff.1 h2)with e'|h
  ·exact absurd (congrArg Prod.snd e').symm ho
  ·exact h
 have hnd:((a::r).map (·.1)).Nodup:=(hr.map _).nodup_iff.1 hn
 rw[List.map_cons,List.nodup_cons]at hnd
 exact hnd.1 (e▸List.mem_map.2 ⟨b,hb,rfl⟩)
theorem XC {H:q8}:H.er=H<->∀x∈H,x.2.er=x.2:=by
 induction H with
 | nil=>simp
 | cons a r ih =>
  obtain⟨b,o⟩:=a
  rw[q8.er_cons]
  constructor
  ·intro h x hx
   have h1:=(List.cons.inj h)
   rcases List.mem_cons.1 hx with rfl|hx
   ·exact congrArg Prod.snd h1.1
   ·exact ih.1 h1.2 x hx
  ·intro h
   rw[ih.2 fun x hx=>h x (List.mem_cons_of_mem _ hx),show o.er=o from h (b,o) (by simp)]
theorem PF {H H':q8} (hp:H.Perm H') (h:H.er=H):H'.er=H':=XC.2 fun x hx=>XC.1 h x (hp.mem_iff.2 hx)
theorem jF.memS {p:jF} {R:Nat} {r:qN} {x:Nat × HObj} (h:x∈p.S):x∈p.core R r:=by
 unfold jF.core
 exact List.mem_cons_of_mem _ (List.mem_cons_of_mem _ (List.mem_append_right _ (List.mem_append_right _ h)))
theorem zf5 (R:Nat) (e:Int) {r:qN} {H:q8} (h:z8 R r H):q7 Tryz.prog 146 [.av .ptr (.ptr R wH []),.av (.int .i64) (.i .i64 e)] H fun x H'=>x=.tup []/\z8 R (wY e r) H':=by
 obtain⟨p,hp,rfl⟩:=h
 obtain⟨_,e2⟩:=hp.todo.er hp.tds
 refine q7.use (Hs:=[(R,qP p.ta (j6 r.env) r.buf p.K r.asks r.waits r.over)]) (rest:=(p.K,.map 9 68 (knE r.known))::(p.TA++(p.QH++p.S))) (List.Perm.refl _) (zjI R e _ _ _ _ _ _ _ e2 (j8 r.env)) ?_
 rintro x H' ⟨rfl,rfl⟩ _
 exact⟨_,HSub.refl _,rfl,p,⟨hp.todo,hp.seen,hp.box,hp.tds⟩,rfl⟩
theorem zlM (R:Nat) (s:Txt) {r:qN} {H:q8} (h:z8 R r H) (hb:r.buf.length<=1000000000) (hs:s.length<=1000000000000000):q7 Tryz.prog 141 [.av .ptr (.ptr R wH []),.av .str (.s s)] H fun x H'=>x=.tup []/\z8 R (yS s r) H':=by
 obtain⟨p,hp,rfl⟩:=h
 obtain⟨_,e2⟩:=hp.todo.er hp.tds
 refine q7.use (Hs:=[(R,qP p.ta (j6 r.env) r.buf p.K r.asks r.waits r.over)]) (rest:=(p.K,.map 9 68 (knE r.known))::(p.TA++(p.QH++p.S))) (List.Perm.refl _) (zlD R s _ _ _ _ _ _ _ e2 (j8 r.env) hb hs) ?_
 rintro x H' ⟨rfl,rfl⟩ _
 refine⟨_,HSub.refl _,rfl,p,?_,?_⟩
 ·unfold yS
  split<;>exact⟨hp.todo,hp.seen,hp.box,hp.tds⟩
 ·unfold yS jF.core
  split<;>rfl
theorem zrD (R br:Nat) (x:KnV) {r:qN} {p:jF} (hp:p.OK R r) (hbr:(br,zJ R)∈p.S) (hb:r.buf.length<=1000000000) (hx:x.is=true->x.data.length<=1000000000) :
  q7 Tryz.prog 142 [.av (q9 Tryz.prog 68) (kA x),.av .ptr (.ptr br .ptr [])] (p.core R r) fun y H'=>y=.tup []/\z8 R (coR .tr x r) H':=by
 have hH:z8 R r (p.core R r):=⟨p,hp,rfl⟩
 have her:=hH.er
 obtain⟨H,hHe⟩:∃H,H=p.core R r:=⟨_,rfl⟩
 have hm:(br,zJ R)∈H:=hHe▸jF.memS hbr
 rw[<-hHe]at hH her |-
 obtain⟨rest,hpm⟩:=C3 hm
 have hre:=PF hpm her
 refine q7.sub (R:=fun y H'=>y=.tup []/\∃H2,Ab.HSub H2 H'/\z8 R (coR .tr x r) H2) ?_ fun y H' ⟨h1,H2,h2,h3⟩ _=>⟨H2,h2,h1,h3⟩
 refine q7.perm hpm ?_
 rw[q8.er_cons]at hre
 have hre2:=(List.cons.inj hre).2
 refine zov Tryz.func142 cf0 fun imm0 w0=>?_
 simp (disch:=omega) [zz,kA]
 cases hxi:x.is
 ·simp (disch:=omega) [zz,hxi]
  simp (disch:=omega) [zz,Tryz.f142,hre2,coR,hxi]
  exact⟨H,HSub.of_perm hpm.symm,hH⟩
 ·simp (disch:=omega) [zz,hxi,zJ]
  refine qD (R:=fun y H'=>y=.tup []/\z8 R (yS x.data r) H') H [] (by simpa[zJ]using hpm.symm) rfl (by simp[qI]) (by simp) ?_ ?_
  ·rw[her]
   simpa[TV.er,AV.er]using zlM R x.data hH hb (by have:=hx hxi;omega)
  rintro y H' ⟨rfl,hh⟩ _
  refine⟨H',by simpa using HSub.refl _,?_⟩
  have hhe:=hh.er
  simp (disch:=omega) [zz,Tryz.f142,hhe,coR,hxi]
  exact⟨H',HSub.refl _,hh⟩
end
section
variable [Sel]
theorem zhg {P:Program} {l:Nat} {args:List TV} {H:q8} {R R':TV->q8->Prop} (h:YC P l args H R) (hr:∀r H',R r H'->H'.keys.Nodup->∃H'':q8,Ab.HSub H'' H'/\R' r H''):YC P l args H R':=by
 intro imm w vs h1 h2
 obtain⟨f,tmps,as',bo,h3,h4⟩:=h imm w vs h1 h2
 refine⟨f,tmps,as',bo,h3,RoundIn.mono h4 ?_⟩
 rintro e w' ⟨v,r,imm',H',a,b,c,d,st⟩
 obtain⟨H'',hs,hR⟩:=hr _ _ b d.nodup
 exact⟨v,r,imm',H'',a,hR,c,⟨d.imm,hs.nodup d.nodup,fun b o ho=>d.obj b o (hs.subset ho),d.tab⟩,⟨st.os,st.tape,st.output,st.size,st.frame,st.imm,st.kept,fun b hb=>st.dom b (hs.keys hb),st.drawn⟩⟩
end
section
variable [Sel] [SelPow] [SelMax]
theorem AT.absE {c:Ctx} {code:Code} {K:Exit->St->Prop} {s:St} (Q:(Nat->TV)->Prop) (h0:Q s.env) (h:∀E,Q E->AT c code K { s with env:=E }):AT c code K s:=h s.env h0
theorem zjO {P:Program} {l:Nat} {args:List TV} {H H1:q8} {R:TV->q8->Prop} (hp:H1.Perm H) (h:YC P l args H R):YC P l args H1 R:=by
 intro imm w vs hrep h2
 have hr:Rep P (g0 imm) w H:=⟨hrep.imm,(hp.map _).nodup_iff.1 hrep.nodup,fun b o ho=>hrep.obj b o (hp.mem_iff.2 ho),hrep.tab⟩
 obtain⟨f,tmps,as',bo,h3,h4⟩:=h imm w vs hr h2
 refine⟨f,tmps,as',bo,h3,RoundIn.mono h4 ?_⟩
 rintro e w' ⟨v,r,imm',H',a,b,c,d,st⟩
 exact⟨v,r,imm',H',a,b,c,d,st.keys fun b=>((hp.map (·.1)).mem_iff).symm⟩
theorem zfl {P:Program} {l:Nat} {args:List TV} {H:q8} {R:TV->q8->Prop} (h:H.keys.Nodup->YC P l args H R):YC P l args H R :=
 fun imm w vs h1 h2=>h h1.nodup imm w vs h1 h2
abbrev zh6:TyD:=.slice 9
noncomputable def bsO (l:List Txt):HObj:=.var zh6 (.sl .no (strs l))
theorem zlV (l:List Txt):(bsO l).er=bsO l:=by simp[bsO,HObj.er_var,AV.erk]
abbrev zt6:Cfg:=⟨fun n=>n==1,fun _=>false⟩
theorem znR (l:List Txt):q7 Tryz.prog 169 [.av zh6 (.sl .no (strs l))] [] fun r H'=>∃c,r=.av .func (.fn 189 [.ptr c zh6 []])/\H'=[(c,bsO l)]:=by
 refine zov Tryz.func169 zt6 fun imm0 w0=>?_
 simp (disch:=omega) [zz]
 intro c
 simp (disch:=omega) [zz,Tryz.f169,bsO,AV.ers]
theorem zl8 {G:Nat->q8->Prop} (y c:Nat) (l:List Txt) (hl:l.length<=1000000000) (hGe:∀k H,G k H->H.er=H)
  (hY:∀k (hk:k<l.length) H,G k H->YC Tryz.prog y [.av (.int .i64) (.i .i64 (l.length-1-k:Nat)),.av .str (.s (l[l.length-1-k]'(by omega)))] H fun r H'=>r=.av .bool (.b true)/\G (k+1) H') :
  ∀H,G 0 H->q7 Tryz.prog 189 [.av .func (.yl y),.av .ptr (.ptr c zh6 [])] ((c,bsO l)::H)
   fun r H'=>r=.tup []/\∃H1,G l.length H1/\H'=(c,bsO l)::H1:=by
 intro H hG
 have hbe:=zlV l
 have hsl:∀x:List Txt,(strs x).length=x.length:=fun x=>by simp[strs]
 refine zov Tryz.func189 cf0 fun imm0 w0=>?_
 simp (disch:=omega) [zz,bsO,hsl]
 refine AT.loop' (α:=Nat × q8) (fun p=>St.of [(0,.av .func (.yl y)),(1,.av .ptr (.ptr c zh6 [])),(3,.av (.int .i64) (.i .i64 ((l.length:Int)-1-p.1)))] [] (fun _=>0) ((c,bsO l)::p.2))
  (fun p=>p.1<=l.length/\G p.1 p.2) (fun p=>l.length-p.1) (0,H) ?_ ?_ ?_
 ·apply Le.of<;>simp[zA,qF,bsO]<;>try omega
 ·exact⟨by omega,hG⟩
 rintro⟨k,H1⟩ ⟨hk,hG1⟩ KL hN hE
 simp only at hk hG1 hN
 refine zrd cf0 ?_
 by_cases hlt:k<l.length
 ·obtain⟨i,hi⟩:∃i:Nat,i=l.length-1-k:=⟨_,rfl⟩
  have hii:(l.length:Int)-1-k=i:=by omega
  have hil:i<l.length:=by omega
  have hgi:(strs l)[i]?=some (.s l[i]):=by simp[strs,List.getElem?_eq_getElem hil]
  rw[hii]
  have hge:(0:Int)<=i:=by omega
  simp (disch:=omega) [zz,hge,bsO,hgi,hsl,hil]
  refine WK (R:=fun r H'=>r=.av .bool (.b true)/\G (k+1) H') H1 [(c,bsO l)] (List.perm_append_comm (l₁:=[_])) (by simp[qI]) ?_ ?_
  ·rw[hGe _ _ hG1]
   have:=hY k hlt _ hG1
   simpa[TV.er,<-hi]using this
  rintro r H2 ⟨rfl,hG2⟩ _
  refine⟨(c,bsO l)::H2,HSub.of_perm (List.perm_append_comm (l₂:=[_])),?_⟩
  simp (disch:=omega) [zz]
  refine hN _ (k+1,H2) ?_ ⟨by omega,hG2⟩ (by simp only;omega)
  apply Le.of<;>simp[zA,qF,bsO]<;>try omega
 ·have hge:(l.length:Int)-1-k=-1:=by omega
  rw[hge]
  simp (disch:=omega) [zz]
  refine hE _ _ (by simp) ?_
  have hkl:k=l.length:=by omega
  subst hkl
  have hH:=hGe _ _ hG1
  simp (disch:=omega) [zz,Tryz.f189,hH,hbe]
  exact⟨hG1,by first|rfl|simp[bsO]⟩
theorem zaG (l:Txt) (hl:l.length<=1000000):PC Tryz.prog 136 [.av .str (.s l)] (.av (.slice 9) (.sl .no (strs (qZ l)))) :=
 zag.freeze laid (by simp) (pC l hl)
theorem uU {a b c:q8} (h1:Ab.HSub a b) (h2:Ab.HSub b c):Ab.HSub a c:=by
 obtain⟨l,p1,s1⟩:=h1
 obtain⟨m,p2,s2⟩:=h2
 obtain⟨e,he⟩:=s2.exists_perm_append
 exact⟨l++e,p2.trans (he.trans (p1.append_right e)),s1.trans (List.sublist_append_left _ _)⟩
theorem Z9 (d:DoV):(jX d).erk=jX d:=rfl
theorem JK.cons {v:AV} {j:List AV} (hv:v.erk=v) (h:JK j):JK (v::j):=by
 unfold JK at *;rw[AV.erks_eq]at *;rw[List.map_cons,h,hv]
theorem JK.tail {j:List AV} (h:JK j):JK j.tail:=by rw[<-List.drop_one];exact h.drop 1
def yF (r:qN) (l:List TdV):qN:={ r with todo:=r.todo++l }
theorem QG.one {R:Nat} {q:Option Nat} {S:q8} {ts:List TdV} {fs:List AV} {t:TdV} {v:AV} (h:QG R q S ts fs) (h1:CH R q S t v):QG R q S (ts++[t]) (fs++[v]):=h.app (.cons h1 .nil)
abbrev zof:Cfg:=⟨fun n=>n==6,fun n=>n==1000002||n==2000019||n==21⟩
theorem zo1 (R Q br bw bs:Nat) (w d:Txt) {r:qN} {p:jF} (hp:p.OK R r) (hq:p.q=some Q) (hbr:(br,zJ R)∈p.S) (hbw:(bw,zE w)∈p.S) (hbs:(bs,WJ Q)∈p.S) (hd:d.length<=1000000) (htd:r.todo.length<=1000000000) :
  q7 Tryz.prog 168 [.av .str (.s d),.av .ptr (.ptr br .ptr []),.av .ptr (.ptr bw .str []),.av .ptr (.ptr bs XZ [])] (p.core R r) fun y H'=>y=.tup []/\z8 R (thR (.scan w) d r) H':=by
 have hll:=ZW d
 obtain⟨ls,hls⟩:∃ls,ls=qZ d:=⟨_,rfl⟩
 have hpc:=zaG d hd
 rw[<-hls]at hll hpc
 refine q7.sub (R:=fun y H'=>y=.tup []/\∃H2,Ab.HSub H2 H'/\z8 R (thR (.scan w) d r) H2) ?_ fun y H' ⟨h1,H2,h2,h3⟩ _=>⟨H2,h2,h1,h3⟩
 refine zov Tryz.func168 zof fun imm0 w0=>?_
 simp (disch:=omega) [zz]
 refine zcv hpc ?_
 simp (disch:=omega) [zz]
 refine qD (R:=fun r' H'=>∃c,r'=.av .func (.fn 189 [.ptr c zh6 []])/\H'=[(c,bsO ls)]) [] (p.core R r) (by simp) rfl (by simp[qI]) (by simp) ?_ ?_
 ·simpa[TV.er,AV.er]using znR ls
 rintro r' H' ⟨c,rfl,rfl⟩ hnd2
 refine⟨(c,bsO ls)::p.core R r,HSub.refl _,?_⟩
 simp (disch:=omega) [zz]
 refine AT.absE (fun E=>E 1=.av .ptr (.ptr br .ptr [])/\E 2=.av .ptr (.ptr bw .str [])/\E 3=.av .ptr (.ptr bs XZ [])/\E 9=.av .func (.fn 189 [.ptr c zh6 []])) (by simp) ?_
 rintro E ⟨hE1,hE2,hE3,hE9⟩
 refine AT.range (gf:=189) rfl (by simpa using hE9) rfl (by simp) ?_
 intro y D rr i0 w1 hy hrec hready hpend hpar has hbo
 obtain⟨G,hG⟩:∃G:Nat->q8->Prop,G=fun k H=>∃p':jF,p'.OK R (yF r ((ls.reverse.take k).map fun s=>.line s w))/\p'.q=some Q/\(br,zJ R)∈p'.S/\(bw,zE w)∈p'.S/\(bs,WJ Q)∈p'.S/\H=(y,.lrec rr i0 w1)::p'.core R (yF r ((ls.reverse.take k).map fun s=>.line s w)):=⟨_,rfl⟩
 refine⟨(c,bsO ls)::(y,.lrec rr i0 w1)::p.core R r,[],fun t H'=>t=.tup []/\∃H1,G ls.length H1/\H'=(c,bsO ls)::H1,?_,?_,?_⟩
 ·rw[List.append_nil]
  exact List.Perm.swap _ _ _
 ·have her:=(show z8 R r (p.core R r) from⟨p,hp,rfl⟩).er
  have he:q8.er ((c,bsO ls)::(y,.lrec rr i0 w1)::p.core R r)=(c,bsO ls)::(y,.lrec rr i0 w1)::p.core R r:=by
   rw[q8.er_cons,q8.er_cons,her,zlV];rfl
  rw[he]
  refine zl8 (G:=G) y c ls (by omega) ?_ ?_ _ ?_
  ·rw[hG]
   rintro k H ⟨p',hp',_,_,_,_,rfl⟩
   rw[q8.er_cons,(show z8 R _ (p'.core R _) from⟨p',hp',rfl⟩).er];rfl
  ·rw[hG]
   rintro k hk H ⟨p',hp',hq',hbr',hbw',hbs',rfl⟩
   obtain⟨x,hx⟩:∃x,x=ls[ls.length-1-k]'(by omega):=⟨_,rfl⟩
   obtain⟨r1,hr1⟩:∃r1,r1=yF r ((ls.reverse.take k).map fun s=>.line s w):=⟨_,rfl⟩
   have hnx:yF r ((ls.reverse.take (k+1)).map fun s=>.line s w)=yF r1 [.line x w]:=by
    rw[List.take_succ_eq_append_getElem (by simpa using hk),List.getElem_reverse,hr1,hx]
    simp[yF]
   have hr1t:r1.todo.length<=2000000000:=by
    rw[hr1]
    simp[yF]
    omega
   rw[<-hr1]at hp' |-
   rw[<-hx]
   refine zhg (R:=fun rrr H'=>rrr=.av .bool (.b true)/\∃p'':jF,p''.OK R (yF r1 [.line x w])/\p''.q=some Q/\(br,zJ R)∈p''.S/\(bw,zE w)∈p''.S/\(bs,WJ Q)∈p''.S/\Ab.HSub ((y,.lrec rr i0 w1)::p''.core R (yF r1 [.line x w])) H') ?_ (fun rrr H' ⟨e1,p'',e2,e3,e4,e5,e6,e7⟩ _=>⟨_,e7,e1,p'',by rw[hnx];exact e2,e3,e4,e5,e6,by rw[hnx]⟩)
   refine zfl fun hnd=>?_
   obtain⟨S2,hS2⟩:=C3 hbr'
   obtain⟨rest,hrest⟩:∃rest:q8,rest=(p'.K,.map 9 68 (knE r1.known))::(p'.QH++S2):=⟨_,rfl⟩
   have hp1:((y,HObj.lrec rr i0 w1)::p'.core R r1).Perm ((y,.lrec rr i0 w1)::(R,qP p'.ta (j6 r1.env) r1.buf p'.K r1.asks r1.waits r1.over)::(br,zJ R)::(p'.TA++rest)):=by
    refine List.perm_iff_count.2 fun a=>?_
    have:=hS2.count_eq a
    rw[hrest]
    simp only[jF.core,List.count_append,List.count_cons]at this |-
    omega
   have hnd1:(q8.keys ((y,HObj.lrec rr i0 w1)::(R,qP p'.ta (j6 r1.env) r1.buf p'.K r1.asks r1.waits r1.over)::(br,zJ R)::(p'.TA++rest))).Nodup:=by
    have h1:(((y,HObj.lrec rr i0 w1)::p'.core R r1).map Prod.fst).Nodup:=hnd
    exact(hp1.map Prod.fst).nodup_iff.1 h1
   have hrer:rest.er=rest:=by
    have h1:=PF hp1 (by rw[q8.er_cons,(show z8 R _ (p'.core R _) from⟨p',hp',rfl⟩).er];rfl)
    exact XC.2 fun z hz=>XC.1 h1 z (by simp[hz])
   refine zjO hp1 ?_
   refine YC.of_round (l:=y) hrec hready (by rw[hpar];rfl) (by rw[hpar];simp) (fun imm wd=>?_)
   rw[has,hbo,hpar]
   have hrl:∀(pp:Array Nat) (a b:Code),pp=rr.params->a=rr.assign->b=rr.body->({ state:=.ready,pending:=none,fn:=rr.fn,tmps:=rr.tmps,params:=pp,assign:=a,body:=b,defers:=rr.defers }:Loop)=rr:=by
    rintro _ _ _ rfl rfl rfl;exact V7 hready hpend
   have her:∀r',(HObj.lrec r' i0 w1).er=HObj.lrec r' i0 w1:=fun _=>rfl
   have hbwk:∀b6:Nat,¬b6=br->¬b6∈rest.keys->b6≠bw:=by
    intro b6 h1 h2 e
    rw[<-e]at hbw'
    rcases List.mem_cons.1 (hS2.mem_iff.1 hbw')with e|h
    ·exact h1 (congrArg Prod.fst e)
    ·exact h2 (List.mem_map.2 ⟨(b6,zE w),by rw[hrest];simp[h],rfl⟩)
   have fin:∀(b6:Nat) (ta':AV) (TA' H':q8),zcH (p'.fs++[.fn 170 [.ptr b6 .str [],.ptr bw .str [],.ptr br .ptr [],.ptr bs XZ []]]) ta' TA'->b6≠bw->
     Ab.HSub ((b6,zE x)::(y,.lrec rr i0 w1)::(R,qP ta' (j6 r1.env) r1.buf p'.K r1.asks r1.waits r1.over)::(br,zJ R)::(TA'++rest)) H'->
     ∃p'':jF,p''.OK R (yF r1 [.line x w])/\p''.q=some Q/\(br,zJ R)∈p''.S/\(bw,zE w)∈p''.S/\(bs,WJ Q)∈p''.S/\Ab.HSub ((y,.lrec rr i0 w1)::p''.core R (yF r1 [.line x w])) H':=by
    intro b6 ta' TA' H' hT hne hsub
    refine⟨{ p' with TA:=TA',S:=(b6,zE x)::p'.S,fs:=p'.fs++[.fn 170 [.ptr b6 .str [],.ptr bw .str [],.ptr br .ptr [],.ptr bs XZ []]],ta:=ta' },⟨hT,hp'.seen,?_,?_⟩,hq',List.mem_cons_of_mem _ hbr',List.mem_cons_of_mem _ hbw',List.mem_cons_of_mem _ hbs',?_⟩
    ·show q8.er ((b6,zE x)::p'.S)=_
     rw[q8.er_cons,hp'.box]
     simp[zE,HObj.er_var,AV.erk]
    ·exact(hp'.tds.mono fun z hz=>List.mem_cons_of_mem _ hz).one ⟨Q,b6,bw,br,bs,hq',rfl,hne,List.mem_cons_self,List.mem_cons_of_mem _ hbw',List.mem_cons_of_mem _ hbr',List.mem_cons_of_mem _ hbs'⟩
    ·refine uU (HSub.of_perm ?_) hsub
     refine List.perm_iff_count.2 fun a=>?_
     have:=hS2.count_eq a
     rw[hrest]
     simp only[jF.core,yF,List.count_append,List.count_cons]at this |-
     omega
   rcases hp'.todo with⟨hfs,hta,hTA⟩|⟨T,cap,j,hj,hta,hcap,hTA⟩
   ·rw[hTA]at hnd1 |-
    rw[hta]
    rw[hfs]at fin
    simp at hnd1
    obtain⟨⟨n1,n2,n3⟩,⟨n4,n5⟩,n6,n7⟩:=hnd1
    have n1':¬R=y:=fun e=>n1 e.symm
    have n2':¬br=y:=fun e=>n2 e.symm
    have n4':¬br=R:=fun e=>n4 e.symm
    refine zrd zof ?_
    simp (disch:=omega) [zz,JA,Z5,pD,hE1,hE2,hE3]
    intro b6 m1 m2 m3 m4
    have m1':¬y=b6:=fun e=>m1 e.symm
    have m2':¬R=b6:=fun e=>m2 e.symm
    have m3':¬br=b6:=fun e=>m3 e.symm
    refine⟨by assumption,?_⟩
    refine zrd zof ?_
    simp (disch:=omega) [zz]
    refine kI.ofK [0,1,2,3,4,5,6,7,8,9,10] [0] [br] (by kernel_rfl) ?_
    simp (disch:=omega) [zz,hE1,hE2,hE3,n1,n2,n4,n1',n2',n4',m1,m2,m3,m1',m2',m3',zJ,qP]
    (repeat with_reducible refine om ?_)
    intro b cap c1 c2 c3 c4 c5 c6
    have c1':¬b6=b:=fun e=>c1 e.symm
    have c2':¬y=b:=fun e=>c2 e.symm
    have c3':¬R=b:=fun e=>c3 e.symm
    have c4':¬br=b:=fun e=>c4 e.symm
    refine⟨c4,?_⟩
    (repeat with_reducible refine om ?_)
    simp (disch:=omega) [zz,n1,n2,n4,n1',n2',n4',m1,m2,m3,m1',m2',m3',c1,c2,c3,c4,c1',c2',c3',c4']
    simp (disch:=omega) [zz,X4,gJ,hrer,j8,Z9,n1,n2,n4,n1',n2',n4',m1,m2,m3,m1',m2',m3',c1,c2,c3,c4,c1',c2',c3',c4']
    rw[her,hrl _ _ _ hpar.symm has.symm hbo.symm,show AV.erks (List.replicate (cap-1) AV.nilfn)=_ from JK.rep rfl _]
    refine fin b6 (.msl b 1 0 1 cap) [(b,.var (.arr cap 1) (.agg (_::List.replicate (cap-1) .nilfn)))] _ (.inr ⟨b,cap,List.replicate (cap-1) .nilfn,JK.rep rfl _,rfl,by simp;omega,rfl⟩) (hbwk b6 m3 m4) (HSub.of_perm ?_)
    refine List.perm_iff_count.2 fun a=>?_
    simp only[List.count_append,List.count_cons,List.count_nil,zE,zJ,qP]
    omega
   ·rw[hTA]at hnd1 |-
    rw[hta]
    simp at hnd1
    obtain⟨⟨n1,n2,n8,n3⟩,⟨n4,n9,n5⟩,⟨n10,n6⟩,n11,n7⟩:=hnd1
    have n1':¬R=y:=fun e=>n1 e.symm
    have n2':¬br=y:=fun e=>n2 e.symm
    have n4':¬br=R:=fun e=>n4 e.symm
    have n8':¬T=y:=fun e=>n8 e.symm
    have n9':¬T=R:=fun e=>n9 e.symm
    have n10':¬T=br:=fun e=>n10 e.symm
    have hfl:=hp'.tds.len
    have hcapn:(0:Nat)+cap=cap:=by omega
    obtain⟨fs,hfs⟩:∃fs,fs=p'.fs:=⟨_,rfl⟩
    rw[<-hfs]at fin hfl hcap |-
    have hjfs:=hp'.tds.jk
    rw[<-hfs]at hjfs
    refine zrd zof ?_
    simp (disch:=omega) [zz,JA,Z5,pD,hE1,hE2,hE3]
    intro b6 m1 m2 m3 m5 m4
    have m1':¬y=b6:=fun e=>m1 e.symm
    have m2':¬R=b6:=fun e=>m2 e.symm
    have m3':¬br=b6:=fun e=>m3 e.symm
    have m5':¬T=b6:=fun e=>m5 e.symm
    refine⟨by assumption,?_⟩
    refine zrd zof ?_
    simp (disch:=omega) [zz]
    refine kI.ofK [0,1,2,3,4,5,6,7,8,9,10] [0] [br] (by kernel_rfl) ?_
    simp (disch:=omega) [zz,hE1,hE2,hE3,n1,n2,n4,n1',n2',n4',n8,n9,n10,n8',n9',n10',m1,m2,m3,m1',m2',m3',m5,m5',zJ,qP]
    (repeat with_reducible refine om ?_)
    refine⟨fun hroom=>?_,fun hgrow=>?_⟩
    ·(repeat with_reducible refine om ?_)
     simp (disch:=omega) [zz,X4,gJ,hrer,j8,Z9,n1,n2,n4,n1',n2',n4',n8,n9,n10,n8',n9',n10',m1,m2,m3,m1',m2',m3',m5,m5']
     rw[her,hrl _ _ _ hpar.symm has.symm hbo.symm]
     rw[show AV.erks (fs++AV.fn 170 [.ptr b6 .str [],.ptr bw .str [],.ptr br .ptr [],.ptr bs XZ []]::j.tail)=_ from hjfs.app (JK.cons rfl hj.tail),List.append_cons]
     refine fin b6 (.msl T 1 0 (fs.length+1) cap) [(T,.var (.arr cap 1) (.agg (fs++[_]++j.tail)))] _ (.inr ⟨T,cap,j.tail,hj.tail,by simp,by simp;omega,rfl⟩) (hbwk b6 m3 m4) (HSub.of_perm ?_)
     refine List.perm_iff_count.2 fun a=>?_
     simp only[List.count_append,List.count_cons,List.count_nil,zE,zJ,qP]
     omega
    ·intro b cap2 c1 c2 c3 c4 c7 c5 c6
     have c1':¬b6=b:=fun e=>c1 e.symm
     have c2':¬y=b:=fun e=>c2 e.symm
     have c3':¬R=b:=fun e=>c3 e.symm
     have c4':¬br=b:=fun e=>c4 e.symm
     have c7':¬T=b:=fun e=>c7 e.symm
     refine⟨c4,?_⟩
     (repeat with_reducible refine om ?_)
     simp (disch:=omega) [zz,n1,n2,n4,n1',n2',n4',n8,n9,n10,n8',n9',n10',m1,m2,m3,m1',m2',m3',m5,m5',c1,c2,c3,c4,c7,c1',c2',c3',c4',c7']
     simp (disch:=omega) [zz,X4,gJ,hrer,j8,Z9,n1,n2,n4,n1',n2',n4',n8,n9,n10,n8',n9',n10',m1,m2,m3,m1',m2',m3',m5,m5',c1,c2,c3,c4,c7,c1',c2',c3',c4',c7']
     rw[her,hrl _ _ _ hpar.symm has.symm hbo.symm]
     rw[show AV.erks (fs++AV.fn 170 [.ptr b6 .str [],.ptr bw .str [],.ptr br .ptr [],.ptr bs XZ []]::List.replicate (cap2-(fs.length+1)) AV.nilfn)=_ from hjfs.app (JK.cons rfl (JK.rep rfl _)),List.append_cons]
     refine fin b6 (.msl b 1 0 (fs.length+1) cap2) [(b,.var (.arr cap2 1) (.agg (fs++[_]++List.replicate (cap2-(fs.length+1)) .nilfn)))] _ (.inr ⟨b,cap2,_,JK.rep rfl _,by simp,by simp;omega,rfl⟩) (hbwk b6 m3 m4) ⟨(T,.var (.arr cap 1) (.agg (AV.erks (fs++j))))::_,?_,(List.Sublist.refl _).cons _⟩
     refine List.perm_iff_count.2 fun a=>?_
     simp only[List.count_append,List.count_cons,List.count_nil,zE,zJ,qP]
     omega
  ·rw[hG]
   exact⟨p,by simpa[yF]using hp,hq,hbr,hbw,hbs,by simp[yF]⟩
 ·rintro t H' ⟨rfl,H1,hg,rfl⟩ hnd3
  rw[hG]at hg
  obtain⟨p',hp',hq',hbr',hbw',hbs',rfl⟩:=hg
  refine⟨rr,(c,bsO ls)::p'.core R _,HSub.of_perm (by rw[List.append_nil];exact List.Perm.swap _ _ _),by rw[hready];simp,?_⟩
  rw[hpend]
  have her:=(show z8 R _ (p'.core R _) from⟨p',hp',rfl⟩).er
  have hfin:yF r ((ls.reverse.take ls.length).map fun s=>.line s w)=thR (.scan w) d r:=by
   rw[List.take_of_length_le (by simp)]
   simp[thR,yF,hls]
  rw[hfin]at her hp'
  rw[hfin]
  simp (disch:=omega) [zz,zbk,Tryz.f168,her]
  exact⟨p'.core R (thR (.scan w) d r),HSub.of_sub ((List.Sublist.refl _).cons _),p',hp',rfl⟩
end
section
variable [Sel]
def VC1 (v:AV) (args:List TV) (H:q8) (R:TV->q8->Prop):Prop:=match v with
 | .fn g caps=>∃cs,caps.mapM J0=some cs/\qR Tryz.prog g=true/\q7 Tryz.prog g ((args++cs).map TV.er) H R
 | .bm g fs=>∃cs,fs.mapM J0=some cs/\qR Tryz.prog g=true/\q7 Tryz.prog g ((cs++args).map TV.er) H R
 | _=>False
theorem ZB {s:St} {v:AV} {args:List TV} {dst:Option Nat} {K:St->Prop} {R:TV->q8->Prop} (Hs rest:q8) (hp:s.H.Perm (Hs++rest)) (he:Hs.er=Hs) (ha:args.all qI=true) (h:VC1 v args Hs R)
  (hk:∀r H',R r H'->(H'++rest).keys.Nodup->∃H'',Ab.HSub H'' (H'++rest)/\K (({ s with H:=H'' }:St).put dst r)):JD Tryz.prog s (.av .func v) args dst K:=by
 unfold VC1 at h
 split at h
 ·obtain⟨cs,h1,h2,h3⟩:=h
  exact qD Hs rest hp h1 ha h2 (by rw[he];exact h3) hk
 ·obtain⟨cs,h1,h2,h3⟩:=h
  exact zo9 Hs rest hp h1 ha h2 (by rw[he];exact h3) hk
 ·exact h.elim
end
section
variable [Sel] [SelPow] [SelMax]
theorem zsk (R:Nat) (d:Txt) {t:ThV} {v:AV} {r:qN} {p:jF} (hp:p.OK R r) (ht:zgS R p.q p.S t v) (hb:r.buf.length<=1000000000) (hd:d.length<=1000000) (htd:r.todo.length<=1000000000) :
  VC1 v [.av .str (.s d)] (p.core R r) fun y H'=>y=.tup []/\z8 R (thR t d r) H':=by
 cases t with
 | add =>
  have hv:v=_:=ht
  rw[hv]
  exact⟨_,rfl,by simp,zlM R d ⟨p,hp,rfl⟩ hb (by omega)⟩
 | scan w =>
  obtain⟨Q,br,bw,bs,hq,rfl,h1,h2,h3⟩:=ht
  exact⟨_,rfl,by simp,zo1 R Q br bw bs w d hp hq h1 h2 h3 hd htd⟩
theorem zpt {R:Nat} {v:AV}:zJ R≠QF v:=by simp[zJ,QF]
theorem zlx (R br bt:Nat) (x:KnV) {t:ThV} {tv:AV} {r:qN} {p:jF} (hp:p.OK R r) (hbr:(br,zJ R)∈p.S) (hbt:(bt,QF tv)∈p.S) (ht:zgS R p.q p.S t tv) (hb:r.buf.length<=1000000000) (hx:x.is=true->x.data.length<=1000000) (htd:r.todo.length<=1000000000) :
  q7 Tryz.prog 167 [.av (q9 Tryz.prog 68) (kA x),.av .ptr (.ptr br .ptr []),.av .ptr (.ptr bt .func [])] (p.core R r) fun y H'=>y=.tup []/\z8 R (coR (.there t) x r) H':=by
 have hH:z8 R r (p.core R r):=⟨p,hp,rfl⟩
 have hth:=fun h=>zsk R x.data hp ht hb (hx h) htd
 have her:=hH.er
 obtain⟨H,hHe⟩:∃H,H=p.core R r:=⟨_,rfl⟩
 have hm:(br,zJ R)∈H:=hHe▸jF.memS hbr
 have hm2:(bt,QF tv)∈H:=hHe▸jF.memS hbt
 rw[<-hHe]at hH her hth |-
 refine q7.nodup fun hnd=>?_
 have hne:br≠bt:=XB hnd hm hm2 zpt
 have hne':¬bt=br:=fun e=>hne e.symm
 obtain⟨rest,hpm⟩:=znx hm hm2 hne
 have hre:=PF hpm her
 refine q7.sub (R:=fun y H'=>y=.tup []/\∃H2,Ab.HSub H2 H'/\z8 R (coR (.there t) x r) H2) ?_ fun y H' ⟨h1,H2,h2,h3⟩ _=>⟨H2,h2,h1,h3⟩
 refine q7.perm hpm ?_
 refine zov Tryz.func167 cf0 fun imm0 w0=>?_
 simp (disch:=omega) [zz,kA]
 cases hxi:x.is
 ·simp (disch:=omega) [zz,hxi,zJ,QF,hne,hne']
  refine qD (R:=fun y H'=>y=.tup []/\z8 R (wY 10 r) H') H [] (by simpa[zJ,QF]using hpm.symm) rfl (by simp[qI]) (by simp) ?_ ?_
  ·rw[her]
   exact q7.args (zf5 R 10 hH) (by simp[qM,coC,TV.er,AV.er])
  rintro y H' ⟨rfl,hh⟩ _
  refine⟨H',by simpa using HSub.refl _,?_⟩
  have hhe:=hh.er
  simp (disch:=omega) [zz,Tryz.f167,hhe,coR,hxi]
  exact⟨H',HSub.refl _,hh⟩
 ·simp (disch:=omega) [zz,hxi,zJ,QF,hne,hne']
  refine ZB (R:=fun y H'=>y=.tup []/\z8 R (thR t x.data r) H') H [] (by simpa[zJ,QF]using hpm.symm) her (by simp[qI]) (hth hxi) ?_
  rintro y H' ⟨rfl,hh⟩ _
  refine⟨H',by simpa using HSub.refl _,?_⟩
  have hhe:=hh.er
  simp (disch:=omega) [zz,Tryz.f167,hhe,coR,hxi]
  exact⟨H',HSub.refl _,hh⟩
theorem zqF (R:Nat) (x:KnV) {k:CoV} {v:AV} {r:qN} {p:jF} (hp:p.OK R r) (hk:GH R p.q p.S k v) (hb:r.buf.length<=1000000000) (hx:x.is=true->x.data.length<=1000000) (htd:r.todo.length<=1000000000) :
  VC1 v [.av (q9 Tryz.prog 68) (kA x)] (p.core R r) fun y H'=>y=.tup []/\z8 R (coR k x r) H':=by
 have hxe:(TV.av (q9 Tryz.prog 68) (kA x)).er=.av (q9 Tryz.prog 68) (kA x):=by simp[TV.er,kA,AV.er,AV.ers]
 cases k with
 | there t =>
  obtain⟨br,bt,tv,rfl,h1,h2,h3⟩:=hk
  refine⟨[.av .ptr (.ptr br .ptr []),.av .ptr (.ptr bt .func [])],rfl,by simp,?_⟩
  have:=zlx R br bt x hp h1 h2 h3 hb hx htd
  simp only[List.cons_append,List.nil_append,List.map_cons,List.map_nil,hxe]
  exact this
 | tr =>
  obtain⟨br,rfl,h1⟩:=hk
  refine⟨[.av .ptr (.ptr br .ptr [])],rfl,by simp,?_⟩
  have:=zrD R br x hp h1 hb (fun h=>by have:=hx h;omega)
  simp only[List.cons_append,List.nil_append,List.map_cons,List.map_nil,hxe]
  exact this
theorem UV (p:Txt):∀l:List KnV,yK (.s p) (knE l)=(jR l p).map kA
 | []=>rfl
 | k::l=>by
  have ih:=UV p l
  simp only[knE,List.map_cons,yK,jR,List.find?_cons]at ih |-
  by_cases h:k.path=p
  ·simp[h]
  ·simp only[AV.s.injEq,h,if_false,decide_false]
   exact ih
theorem jF.KR {p:jF} {R:Nat} {r:qN} (h:(p.core R r).keys.Nodup):¬p.K=R/\¬R=p.K:=by
 have h1:(R::p.K::q8.keys (p.TA++(p.QH++p.S))).Nodup:=h
 rw[List.nodup_cons]at h1
 have:R≠p.K:=fun e=>h1.1 (e▸List.mem_cons_self)
 exact⟨fun e=>this e.symm,this⟩
theorem zbN (x:KnV):(kA x).er=kA x/\(kA x).erk=kA x:=by simp[kA,AV.er,AV.ers,AV.erk,AV.erks]
theorem zgO {a b c:q8} (h:Ab.HSub b c) (hp:b.Perm a):Ab.HSub a c:=uU (HSub.of_perm hp) h
abbrev zqt:Cfg:=⟨fun _=>false,fun n=>n==1000006||n==1000007⟩
theorem zlm (R:Nat) (pth:Txt) (x:KnV) (k:CoV) (kv:AV) {r:qN} {p:jF} (hp:p.OK R r) (hk:GH R p.q p.S k kv) (hf:jR r.known pth=some x) (hb:r.buf.length<=1000000000) (hx:x.is=true->x.data.length<=1000000) (htd:r.todo.length<=1000000000) :
  q7 Tryz.prog 139 [.av .ptr (.ptr R wH []),.av .str (.s pth),.av .func kv] (p.core R r) fun y H'=>y=.tup []/\z8 R (QT pth k r) H':=by
 have her:=(show z8 R r (p.core R r) from⟨p,hp,rfl⟩).er
 obtain⟨hk1,hk2⟩:=hk.er
 have hmf:=UV pth r.known
 rw[hf,Option.map_some]at hmf
 have hask:QT pth k r=coR k x r:=by simp[QT,hf]
 have hco:=zqF R x hp hk hb hx htd
 rw[hask]
 refine q7.nodup fun hnd=>?_
 obtain⟨n1,n2⟩:=jF.KR hnd
 obtain⟨xe1,xe2⟩:=zbN x
 refine q7.sub (R:=fun y H'=>y=.tup []/\∃H2,Ab.HSub H2 H'/\z8 R (coR k x r) H2) ?_ fun y H' ⟨h1,H2,h2,h3⟩ _=>⟨H2,h2,h1,h3⟩
 refine zov Tryz.func139 zqt fun imm0 w0=>?_
 simp (disch:=omega) [zz,jF.core,qP,n1,n2,hmf,hk1,hk2,xe1,xe2]
 (repeat with_reducible refine om ?_)
 refine ZB (R:=fun y H'=>y=.tup []/\z8 R (coR k x r) H') (p.core R r) [] (by simp[jF.core,qP]) her (by simp[qI]) (by simpa using hco) ?_
 rintro y H' ⟨rfl,hh⟩ _
 refine⟨H',by simpa using HSub.refl _,?_⟩
 have hhe:=hh.er
 simp (disch:=omega) [zz,Tryz.f139,hhe]
 exact⟨H',HSub.refl _,hh⟩
theorem zlO (R:Nat) (pth:Txt) (k:CoV) (kv:AV) {r:qN} {p:jF} (hp:p.OK R r) (hk:GH R p.q p.S k kv) (hf:jR r.known pth=none) (hn:500<=r.known.length) (hn2:r.known.length<=1000000000) :
  q7 Tryz.prog 139 [.av .ptr (.ptr R wH []),.av .str (.s pth),.av .func kv] (p.core R r) fun y H'=>y=.tup []/\z8 R (QT pth k r) H':=by
 have her:=(show z8 R r (p.core R r) from⟨p,hp,rfl⟩).er
 obtain⟨hk1,hk2⟩:=hk.er
 have hmf:=UV pth r.known
 rw[hf,Option.map_none]at hmf
 have hask:QT pth k r=wY 6 r:=by simp[QT,hf,hn]
 rw[hask]
 have hkl:(knE r.known).length=r.known.length:=by simp[knE]
 have hge:(500:Int)<=r.known.length:=by omega
 refine q7.nodup fun hnd=>?_
 obtain⟨n1,n2⟩:=jF.KR hnd
 refine q7.sub (R:=fun y H'=>y=.tup []/\∃H2,Ab.HSub H2 H'/\z8 R (wY 6 r) H2) ?_ fun y H' ⟨h1,H2,h2,h3⟩ _=>⟨H2,h2,h1,h3⟩
 refine zov Tryz.func139 zqt fun imm0 w0=>?_
 simp (disch:=omega) [zz,jF.core,qP,n1,n2,hmf,hk1,hk2,hge,hkl]
 (repeat with_reducible refine om ?_)
 refine qD (R:=fun y H'=>y=.tup []/\z8 R (wY 6 r) H') (p.core R r) [] (by simp[jF.core,qP]) rfl (by simp[qI]) (by simp) ?_ ?_
 ·rw[her]
  exact q7.args (zf5 R 6 ⟨p,hp,rfl⟩) (by simp[qM,coC,TV.er,AV.er])
 rintro y H' ⟨rfl,hh⟩ _
 refine⟨H',by simpa using HSub.refl _,?_⟩
 have hhe:=hh.er
 simp (disch:=omega) [zz,Tryz.f139,hhe]
 exact⟨H',HSub.refl _,hh⟩
abbrev zt7:Cfg:=⟨fun n=>n==3||n==4||n==5,fun n=>n==1000006||n==2000033||n==45||n==1000007||n==2000043||n==35⟩
theorem zdT (l:List KnV):List.map (fun p:AV × AV=>(p.1.er,p.2.er)) (knE l)=knE l:=by
 have:=zo7 l
 rw[HObj.er_map]at this
 exact(HObj.map.inj this).2.2
theorem zot (R:Nat) (pth:Txt) (k:CoV) (kv:AV) {r:qN} {p:jF} (hp:p.OK R r) (hk:GH R p.q p.S k kv) (hf:jR r.known pth=none) (hn:¬500<=r.known.length) (htd:r.todo.length<=1000000000) :
  q7 Tryz.prog 139 [.av .ptr (.ptr R wH []),.av .str (.s pth),.av .func kv] (p.core R r) fun y H'=>y=.tup []/\z8 R (QT pth k r) H':=by
 have her:=(show z8 R r (p.core R r) from⟨p,hp,rfl⟩).er
 obtain⟨hk1,hk2⟩:=hk.er
 have hmf:=UV pth r.known
 rw[hf,Option.map_none]at hmf
 have hkl:(knE r.known).length=r.known.length:=by simp[knE]
 obtain⟨r2,hr2⟩:∃r2:qN,r2={ r with asks:=pth,waits:=true,todo:=r.todo++[.ans k pth] }:=⟨_,rfl⟩
 have hask:QT pth k r=r2:=by simp[QT,hf,hn,hr2]
 rw[hask]
 have hge:¬(500:Int)<=r.known.length:=by omega
 refine q7.nodup fun hnd=>?_
 obtain⟨n1,n2⟩:=jF.KR hnd
 have fin:∀(b3 b4 b5:Nat) (ta':AV) (TA' H':q8),zcH (p.fs++[.fn 166 [.ptr b5 .func [],.ptr b3 .ptr [],.ptr b4 .str []]]) ta' TA'->
   Ab.HSub ((R,qP ta' (j6 r.env) r.buf p.K pth true r.over)::(p.K,.map 9 68 (knE r.known))::(b5,QF kv)::(b4,zE pth)::(b3,zJ R)::(TA'++(p.QH++p.S))) H'->∃H2,Ab.HSub H2 H'/\z8 R r2 H2:=by
  intro b3 b4 b5 ta' TA' H' hT hsub
  refine⟨_,zgO hsub ?_,{ p with TA:=TA',S:=(b5,QF kv)::(b4,zE pth)::(b3,zJ R)::p.S,fs:=p.fs++[.fn 166 [.ptr b5 .func [],.ptr b3 .ptr [],.ptr b4 .str []]],ta:=ta' },⟨hT,by rw[hr2];exact hp.seen,?_,?_⟩,rfl⟩
  ·rw[hr2]
   refine List.perm_iff_count.2 fun a=>?_
   simp only[jF.core,List.count_append,List.count_cons]
   omega
  ·show q8.er ((b5,QF kv)::(b4,zE pth)::(b3,zJ R)::p.S)=_
   simp only[q8.er_cons,hp.box,zE,QF,zJ,HObj.er_var,AV.erk,hk2]
  ·rw[hr2]
   have hm:∀z∈p.S,z∈(b5,QF kv)::(b4,zE pth)::(b3,zJ R)::p.S:=fun z hz=>by simp[hz]
   exact(hp.tds.mono hm).one ⟨b5,b3,b4,kv,rfl,by simp,by simp,by simp,hk.mono hm⟩
 refine q7.sub (R:=fun y H'=>y=.tup []/\∃H2,Ab.HSub H2 H'/\z8 R r2 H2) ?_ fun y H' ⟨h1,H2,h2,h3⟩ _=>⟨H2,h2,h1,h3⟩
 refine zov Tryz.func139 zt7 fun imm0 w0=>?_
 (simp (maxSteps:=2000000) (disch:=first|omega|assumption) [zz,-List.reduceReplicate,jF.core,qP])
 intro b3 m1 m2 m3 m4 m5 b4 o0 o1 o2 o3 o4 o5 b5 q6 q0 q1 q2 q3 q4 q5
 have sy:∀ {a b:Nat},¬a=b->¬b=a:=fun h e=>h e.symm
 have m1':=sy m1;have m2':=sy m2;have o0':=sy o0;have o1':=sy o1;have o2':=sy o2;have q6':=sy q6;have q0':=sy q0;have q1':=sy q1;have q2':=sy q2
 simp (disch:=omega) [zz,hmf,hk1,hk2,n1,n2,m1,m2,m1',m2',o0,o1,o2,o0',o1',o2',q6,q0,q1,q2,q6',q0',q1',q2']
 (repeat with_reducible refine om ?_)
 intro _
 refine kI.ofK [1,0,2,3,4,5,6,7,8] [1] [b3] (by kernel_rfl) ?_
 simp (disch:=omega) [zz,n1,n2,m1,m2,m1',m2',o0,o1,o2,o0',o1',o2',q6,q0,q1,q2,q6',q0',q1',q2']
 (repeat with_reducible refine om ?_)
 obtain⟨rest,hrest⟩:∃rest:q8,rest=p.QH++p.S:=⟨_,rfl⟩
 have hrer:rest.er=rest:=by
  rw[jF.core]at her
  exact XC.2 fun z hz=>XC.1 her z (by rw[hrest]at hz;simp only[List.mem_cons,List.mem_append]at hz |-;exact .inr (.inr (.inr hz)))
 have hknE:=zdT r.known
 rw[<-hrest]
 rw[<-hrest]at fin
 have hndk:(R::p.K::(p.TA.keys++rest.keys)).Nodup:=by
  have:(p.core R r).keys=R::p.K::(p.TA.keys++rest.keys):=by rw[hrest];simp[jF.core,q8.keys]
  rw[<-this];exact hnd
 rcases hp.todo with⟨hfs,hta,hTA⟩|⟨T,cap,j,hj,hta,hcap,hTA⟩
 ·rw[hta,hTA,List.nil_append]
  rw[hfs]at fin
  refine kI.ofK [0,1,2,3,4,5,6,7,8,9,10] [0] [b3] (by kernel_rfl) ?_
  simp (disch:=omega) [zz,n1,n2,m1,m2,m1',m2',o0,o1,o2,o0',o1',o2',q6,q0,q1,q2,q6',q0',q1',q2']
  (repeat with_reducible refine om ?_)
  intro b cap c5 c4 c3 c1 c2 c6 c7
  have c1':=sy c1;have c2':=sy c2;have c3':=sy c3;have c4':=sy c4;have c5':=sy c5
  refine⟨by assumption,?_⟩
  (repeat with_reducible refine om ?_)
  simp (disch:=omega) [zz,n1,n2,m1,m2,m1',m2',o0,o1,o2,o0',o1',o2',q6,q0,q1,q2,q6',q0',q1',q2',c5,c4,c3,c1,c2,c5',c4',c3',c1',c2']
  simp (disch:=omega) [zz,Tryz.f139,hrer,hknE,hk2,j8,Z9]
  rw[show AV.erks (List.replicate (cap-1) AV.nilfn)=_ from JK.rep rfl _]
  refine fin b3 b4 b5 (.msl b 1 0 1 cap) [(b,.var (.arr cap 1) (.agg (_::List.replicate (cap-1) .nilfn)))] _ (.inr ⟨b,cap,List.replicate (cap-1) .nilfn,JK.rep rfl _,rfl,by simp;omega,rfl⟩) (HSub.of_perm ?_)
  refine List.perm_iff_count.2 fun a=>?_
  simp only[List.count_append,List.count_cons,List.count_nil,zE,zJ,QF,qP]
  omega
 ·rw[hTA]at hndk
  simp only[q8.keys,List.map_cons,List.map_nil,List.cons_append,List.nil_append,List.nodup_cons,List.mem_cons,not_or]at hndk
  obtain⟨⟨k1,t1',k2⟩,⟨t2',k3⟩,k4,k5⟩:=hndk
  have t1:=sy t1';have t2:=sy t2'
  rw[hTA]at m3 o3 q3
  simp only[q8.keys,List.map_cons,List.map_nil,List.mem_cons,List.not_mem_nil,or_false]at m3 o3 q3
  have t3':=m3;have t4':=o3;have t5':=q3
  have t3:=sy t3';have t4:=sy t4';have t5:=sy t5'
  rw[hta,hTA,List.cons_append,List.nil_append]
  have hfl:=hp.tds.len
  obtain⟨fs,hfs⟩:∃fs,fs=p.fs:=⟨_,rfl⟩
  rw[<-hfs]at fin hfl hcap |-
  have hjfs:=hp.tds.jk
  rw[<-hfs]at hjfs
  refine kI.ofK [0,1,2,3,4,5,6,7,8,9,10] [0] [b3] (by kernel_rfl) ?_
  simp (disch:=omega) [zz,n1,n2,m1,m2,m1',m2',o0,o1,o2,o0',o1',o2',q6,q0,q1,q2,q6',q0',q1',q2',t5,t4,t3,t1,t2,t5',t4',t3',t1',t2']
  (repeat with_reducible refine om ?_)
  refine⟨fun hroom=>?_,fun hgrow=>?_⟩
  ·(repeat with_reducible refine om ?_)
   simp (disch:=omega) [zz,Tryz.f139,hrer,hknE,hk2,j8,Z9]
   rw[show AV.erks (fs++AV.fn 166 [.ptr b5 .func [],.ptr b3 .ptr [],.ptr b4 .str []]::j.tail)=_ from hjfs.app (JK.cons rfl hj.tail),List.append_cons]
   refine fin b3 b4 b5 (.msl T 1 0 (fs.length+1) cap) [(T,.var (.arr cap 1) (.agg (fs++[_]++j.tail)))] _ (.inr ⟨T,cap,j.tail,hj.tail,by simp,by simp;omega,rfl⟩) (HSub.of_perm ?_)
   refine List.perm_iff_count.2 fun a=>?_
   simp only[List.count_append,List.count_cons,List.count_nil,zE,zJ,QF,qP]
   omega
  ·intro b cap2 c5 c4 c3 c1 c2 c8 c6 c7
   have c1':=sy c1;have c2':=sy c2;have c3':=sy c3;have c4':=sy c4;have c5':=sy c5;have c8':=sy c8
   refine⟨by assumption,?_⟩
   (repeat with_reducible refine om ?_)
   simp (disch:=omega) [zz,n1,n2,m1,m2,m1',m2',o0,o1,o2,o0',o1',o2',q6,q0,q1,q2,q6',q0',q1',q2',t5,t4,t3,t1,t2,t5',t4',t3',t1',t2',c5,c4,c3,c1,c2,c5',c4',c3',c1',c2',c8,c8']
   simp (disch:=omega) [zz,Tryz.f139,hrer,hknE,hk2,j8,Z9]
   rw[show AV.erks (fs++AV.fn 166 [.ptr b5 .func [],.ptr b3 .ptr [],.ptr b4 .str []]::List.replicate (cap2-(fs.length+1)) AV.nilfn)=_ from hjfs.app (JK.cons rfl (JK.rep rfl _)),List.append_cons]
   refine fin b3 b4 b5 (.msl b 1 0 (fs.length+1) cap2) [(b,.var (.arr cap2 1) (.agg (fs++[_]++List.replicate (cap2-(fs.length+1)) .nilfn)))] _ (.inr ⟨b,cap2,_,JK.rep rfl _,by simp,by simp;omega,rfl⟩) ⟨(T,.var (.arr cap 1) (.agg (AV.erks (fs++j))))::_,?_,(List.Sublist.refl _).cons _⟩
   refine List.perm_iff_count.2 fun a=>?_
   simp only[List.count_append,List.count_cons,List.count_nil,zE,zJ,QF,qP]
   omega
theorem zaj {kn:List KnV} {p:Txt} {k:KnV} (h:jR kn p=some k):k∈kn:=List.mem_of_find?_eq_some h
structure RB (r:qN):Prop where
 buf:r.buf.length<=1000000000
 todo:r.todo.length<=1000000000
 dat:∀k∈r.known,k.is=true->k.data.length<=1000000
 nk:r.known.length<=1000000000
theorem zhJ (R:Nat) (pth:Txt) (k:CoV) (kv:AV) {r:qN} {p:jF} (hp:p.OK R r) (hk:GH R p.q p.S k kv) (hb:RB r) :
  q7 Tryz.prog 139 [.av .ptr (.ptr R wH []),.av .str (.s pth),.av .func kv] (p.core R r) fun y H'=>y=.tup []/\z8 R (QT pth k r) H':=by
 cases hf:jR r.known pth with
 | some x=>exact zlm R pth x k kv hp hk hf hb.buf (hb.dat x (zaj hf)) hb.todo
 | none =>
  by_cases hn:500<=r.known.length
  ·exact zlO R pth k kv hp hk hf hn hb.nk
  ·exact zot R pth k kv hp hk hf hn hb.todo
theorem zfn (p:Txt):∀l:List Txt,p∉l->WG (.s p) (.b true) (uX l)=uX (l++[p])
 | [],_=>rfl
 | x::l,h=>by
  have h1:x≠p:=fun e=>h (by simp[e])
  have ih:=zfn p l fun e=>h (by simp[e])
  simp only[uX,List.map_cons,WG,List.cons_append,AV.s.injEq,h1,if_false]at ih |-
  rw[ih]
abbrev ztG:Cfg:=⟨fun n=>n==4||n==6||n==7,fun n=>n==1000002||n==2000014||n==15⟩
theorem ziM (R Q:Nat) (pth w:Txt) {r:qN} {p:jF} (hp:p.OK R r) (hq:p.q=some Q) (hb:RB r) (hn:pth∉r.seen) :
  q7 Tryz.prog 143 [.av .ptr (.ptr R wH []),.av .str (.s pth),.av .str (.s w),.av XZ (.map (some Q))] (p.core R r) fun y H'=>y=.tup []/\z8 R (JL pth w r) H':=by
 have her:=(show z8 R r (p.core R r) from⟨p,hp,rfl⟩).er
 obtain⟨r1,hr1⟩:∃r1:qN,r1={ r with seen:=r.seen++[pth] }:=⟨_,rfl⟩
 have hsc:JL pth w r=QT pth (.there (.scan w)) r1:=by rw[JL,hr1]
 rw[hsc]
 have hb1:RB r1:=by rw[hr1];exact⟨hb.buf,hb.todo,hb.dat,hb.nk⟩
 have hQH:p.QH=[(Q,.map 9 4 (uX r.seen))]:=by
  rcases hp.seen with⟨h1,_⟩|⟨Q',h1,h2⟩
  ·rw[hq]at h1;cases h1
  ·rw[hq]at h1;cases h1;exact h2
 refine q7.nodup fun hnd=>?_
 have sy:∀ {a b:Nat},¬a=b->¬b=a:=fun h e=>h e.symm
 have hpm:(p.core R r).Perm ((Q,.map 9 4 (uX r.seen))::(R,qP p.ta (j6 r.env) r.buf p.K r.asks r.waits r.over)::(p.K,.map 9 68 (knE r.known))::(p.TA++p.S)):=by
  refine List.perm_iff_count.2 fun a=>?_
  simp only[jF.core,hQH,List.count_append,List.count_cons,List.count_nil]
  omega
 refine q7.sub (R:=fun y H'=>y=.tup []/\∃H2,Ab.HSub H2 H'/\z8 R (QT pth (.there (.scan w)) r1) H2) ?_ fun y H' ⟨h1,H2,h2,h3⟩ _=>⟨H2,h2,h1,h3⟩
 refine q7.perm hpm ?_
 have hnd2:=((hpm.map Prod.fst).nodup_iff).1 hnd
 refine zov Tryz.func143 ztG fun imm0 w0=>?_
 simp (disch:=omega) [zz]
 intro b4 m1 m2 m3 m4 m5 b6 o0 o1 o2 o3 o4 o5 b7 q6 q0 q1 q2 q3 q4 q5
 have m1':=sy m1;have m2':=sy m2;have m3':=sy m3;have o0':=sy o0;have o1':=sy o1;have o2':=sy o2;have o3':=sy o3;have q6':=sy q6;have q0':=sy q0;have q1':=sy q1;have q2':=sy q2;have q3':=sy q3
 have hmp:=zfn pth r.seen hn
 simp (disch:=omega) [zz,m1,m2,m3,m1',m2',m3',o0,o1,o2,o3,o0',o1',o2',o3',q6,q0,q1,q2,q3,q6',q0',q1',q2',q3',hmp]
 obtain⟨H1,hH1⟩:∃H1:q8,H1=(b7,WJ Q)::(b6,zE w)::(b4,zJ R)::(Q,.map 9 4 (uX (r.seen++[pth])))::(R,qP p.ta (j6 r.env) r.buf p.K r.asks r.waits r.over)::(p.K,.map 9 68 (knE r.known))::(p.TA++p.S):=⟨_,rfl⟩
 refine kI.ofK [0,1,2,3,4,5] [0,1] [b4] (by kernel_rfl) ?_
 simp (disch:=omega) [zz,o0,o0',q0,q0',q6,q6']
 (repeat with_reducible refine om ?_)
 obtain⟨tv,htv⟩:∃tv:AV,tv=.fn 168 [.ptr b4 .ptr [],.ptr b6 .str [],.ptr b7 XZ []]:=⟨_,rfl⟩
 refine qD (R:=fun y H'=>∃br bt,y=.av .func (.fn 167 [.ptr br .ptr [],.ptr bt .func []])/\H'=[(bt,.var .func tv),(br,zJ R)]) [] H1 (by rw[hH1];simp[WJ,zE,zJ]) rfl (by simp[qI]) (by simp) ?_ ?_
 ·have:=zgV R tv (by rw[htv];rfl) (by rw[htv];rfl)
  rw[<-htv]
  simpa[TV.er,AV.er,htv]using this
 rintro y H' ⟨br,bt,rfl,rfl⟩ hnd3
 refine⟨_,HSub.refl _,?_⟩
 rw[hH1]at hnd3 |-
 simp only[q8.keys,List.map_append,List.map_cons,List.map_nil,List.cons_append,List.nil_append,List.nodup_cons,List.mem_cons,not_or]at hnd3
 obtain⟨⟨_,_,_,g1,_⟩,⟨_,_,g2,_⟩,_⟩:=hnd3
 have g1':=sy g1;have g2':=sy g2
 simp (disch:=omega) [zz,V3,g1,g1',g2,g2',o0,o0',q0,q0',q6,q6',WJ,zE,zJ]
 (repeat with_reducible refine om ?_)
 obtain⟨p2,hp2e⟩:∃p2:jF,p2={ p with QH:=[(Q,.map 9 4 (uX (r.seen++[pth])))],S:=(bt,QF tv)::(br,zJ R)::(b7,WJ Q)::(b6,zE w)::(b4,zJ R)::p.S }:=⟨_,rfl⟩
 have hp2:p2.OK R r1:=by
  rw[hp2e,hr1]
  refine⟨hp.todo,.inr ⟨Q,hq,rfl⟩,?_,?_⟩
  ·simp only[q8.er_cons,hp.box,zE,QF,zJ,WJ,HObj.er_var,AV.erk,htv];rfl
  ·exact hp.tds.mono fun z hz=>by simp[hz]
 have hq2:p2.q=some Q:=by rw[hp2e];exact hq
 have hco:GH R p2.q p2.S (.there (.scan w)) (.fn 167 [.ptr br .ptr [],.ptr bt .func []]):=by
  rw[hp2e]
  exact⟨br,bt,tv,rfl,by simp,by simp,Q,b4,b6,b7,hq,htv,by simp,by simp,by simp⟩
 have hask:=zhJ R pth (.there (.scan w)) _ hp2 hco hb1
 have her2:=(show z8 R r1 (p2.core R r1) from⟨p2,hp2,rfl⟩).er
 refine qD (R:=fun y H'=>y=.tup []/\z8 R (QT pth (.there (.scan w)) r1) H') (p2.core R r1) [] ?_ rfl (by simp[qI]) (by simp) ?_ ?_
 ·rw[hp2e,hr1]
  refine List.perm_iff_count.2 fun a=>?_
  simp only[jF.core,List.count_append,List.count_cons,List.count_nil,zE,QF,zJ,WJ]
  omega
 ·rw[her2]
  simpa[TV.er,AV.er]using hask
 rintro y H' ⟨rfl,hh⟩ _
 refine⟨H',by simpa using HSub.refl _,?_⟩
 have hhe:=hh.er
 simp (disch:=omega) [zz,Tryz.f143,hhe]
 exact⟨H',HSub.refl _,hh⟩
abbrev zsj:Cfg:=⟨fun _=>false,fun n=>n==10⟩
theorem zpk (R bt br bp:Nat) (k:CoV) (kv:AV) (pth:Txt) {r:qN} {p:jF} (hp:p.OK R r) (hbt:(bt,QF kv)∈p.S) (hbr:(br,zJ R)∈p.S) (hbp:(bp,zE pth)∈p.S) (hk:GH R p.q p.S k kv) (hb:RB r) :
  q7 Tryz.prog 166 [.av .ptr (.ptr bt .func []),.av .ptr (.ptr br .ptr []),.av .ptr (.ptr bp .str [])] (p.core R r) fun y H'=>y=.tup []/\z8 R (coR k ((jR r.known pth).getD kn0) r) H':=by
 have hH:z8 R r (p.core R r):=⟨p,hp,rfl⟩
 have her:=hH.er
 obtain⟨hk1,hk2⟩:=hk.er
 have hxl:((jR r.known pth).getD kn0).is=true->((jR r.known pth).getD kn0).data.length<=1000000:=by
  cases hf:jR r.known pth with
  | none=>simp[kn0]
  | some x=>exact hb.dat x (zaj hf)
 have hco:=zqF R ((jR r.known pth).getD kn0) hp hk hb.buf hxl hb.todo
 have hmf:=UV pth r.known
 refine q7.nodup fun hnd=>?_
 obtain⟨n1,n2⟩:=jF.KR hnd
 have mk:∀ {x},x∈p.S->x∈p.core R r:=fun h=>jF.memS h
 have e1:bt≠br:=XB hnd (mk hbt) (mk hbr) (by simp[QF,zJ])
 have e2:bt≠bp:=XB hnd (mk hbt) (mk hbp) (by simp[QF,zE])
 have e3:br≠bp:=XB hnd (mk hbr) (mk hbp) (by simp[zJ,zE])
 obtain⟨rest,hpm⟩:=zqu hbt hbr hbp e1 e2 e3
 have hpm2:(p.core R r).Perm ((bt,QF kv)::(br,zJ R)::(bp,zE pth)::(R,qP p.ta (j6 r.env) r.buf p.K r.asks r.waits r.over)::(p.K,.map 9 68 (knE r.known))::(p.TA++(p.QH++rest))):=by
  refine List.perm_iff_count.2 fun a=>?_
  have:=hpm.count_eq a
  simp only[jF.core,List.count_append,List.count_cons]at this |-
  omega
 have hnd2:=((hpm2.map Prod.fst).nodup_iff).1 hnd
 simp only[List.map_cons,List.nodup_cons,List.mem_cons,not_or]at hnd2
 obtain⟨⟨g1,g2,g3,g4,_⟩,⟨g5,g6,g7,_⟩,⟨g8,g9,_⟩,⟨g10,_⟩,_⟩:=hnd2
 have sy:∀ {a b:Nat},¬a=b->¬b=a:=fun h e=>h e.symm
 have g1':=sy g1;have g2':=sy g2;have g3':=sy g3;have g4':=sy g4;have g5':=sy g5;have g6':=sy g6;have g7':=sy g7;have g8':=sy g8;have g9':=sy g9;have g10':=sy g10
 have hpm3:=hpm2.symm
 refine q7.sub (R:=fun y H'=>y=.tup []/\∃H2,Ab.HSub H2 H'/\z8 R (coR k ((jR r.known pth).getD kn0) r) H2) ?_ fun y H' ⟨h1,H2,h2,h3⟩ _=>⟨H2,h2,h1,h3⟩
 refine q7.perm hpm2 ?_
 have fin:∀y H',(y=TV.tup []/\z8 R (coR k ((jR r.known pth).getD kn0) r) H')->True:=fun _ _ _=>trivial
 cases hf:jR r.known pth with
 | none =>
  rw[hf]at hmf hco
  rw[Option.map_none]at hmf
  refine zov Tryz.func166 zsj fun imm0 w0=>?_
  simp (disch:=omega) [zz,QF,zJ,zE,qP,hmf,g1,g2,g3,g4,g5,g6,g7,g8,g9,g10,g1',g2',g3',g4',g5',g6',g7',g8',g9',g10']
  (repeat with_reducible refine om ?_)
  refine ZB (R:=fun y H'=>y=.tup []/\z8 R (coR k kn0 r) H') (p.core R r) [] (by simpa[QF,zJ,zE,qP]using hpm3) her (by simp[qI]) (by simpa[kn0,kA]using hco) ?_
  rintro y H' ⟨rfl,hh⟩ _
  refine⟨H',by simpa using HSub.refl _,?_⟩
  have hhe:=hh.er
  simp (disch:=omega) [zz,Tryz.f166,hhe]
  exact⟨H',HSub.refl _,hh⟩
 | some x =>
  rw[hf]at hmf hco
  rw[Option.map_some]at hmf
  refine zov Tryz.func166 zsj fun imm0 w0=>?_
  simp (disch:=omega) [zz,QF,zJ,zE,qP,hmf,g1,g2,g3,g4,g5,g6,g7,g8,g9,g10,g1',g2',g3',g4',g5',g6',g7',g8',g9',g10']
  (repeat with_reducible refine om ?_)
  refine ZB (R:=fun y H'=>y=.tup []/\z8 R (coR k x r) H') (p.core R r) [] (by simpa[QF,zJ,zE,qP]using hpm3) her (by simp[qI]) (by simpa using hco) ?_
  rintro y H' ⟨rfl,hh⟩ _
  refine⟨H',by simpa using HSub.refl _,?_⟩
  have hhe:=hh.er
  simp (disch:=omega) [zz,Tryz.f166,hhe]
  exact⟨H',HSub.refl _,hh⟩
end
end Go.Proofs.YtfkcpballfhddaaGreatDoor
