/- strings.Builder. No condition beyond each theorem's own. -/
import Derived.Test.YthgocigdldgpgaaGreatDoorL0
import Derived.Test.YthgocigdldgpgaaGreatDoorP10ToK6
set_option linter.unusedSimpArgs false
set_option linter.unusedVariables false
set_option linter.unusedSectionVars false
section
set_option maxRecDepth 100000
namespace Go.Proofs.YthgocigdldgpgaaGreatDoor
open Go Go.Ab
open Classical
variable [Sel]
@[simp] theorem zl5:qZ Tryz.prog 201=true:=by kernel_rfl
@[simp] theorem zr8:z8 Tryz.prog (.func 201)=false:=q9 zl5
@[simp] theorem zkZ:qZ Tryz.prog 158=true:=by kernel_rfl
@[simp] theorem zqd:z8 Tryz.prog (.func 158)=false:=q9 zkZ
@[simp] theorem zl6:qZ Tryz.prog 159=true:=by kernel_rfl
@[simp] theorem zq7:z8 Tryz.prog (.func 159)=false:=q9 zl6
@[simp] theorem zmg:qZ Tryz.prog 160=true:=by kernel_rfl
@[simp] theorem zqm:z8 Tryz.prog (.func 160)=false:=q9 zmg
@[simp] theorem zsK:qD Tryz.prog 283=.other:=by kernel_rfl
@[simp] theorem zrG:z8 Tryz.prog (.func 234)=true:=by kernel_rfl
theorem znX:zpe Tryz.prog (.func 234):=⟨_,Tryz.func234,by kernel_rfl,by kernel_rfl,by kernel_rfl,by kernel_rfl⟩
abbrev QR:TyD:=.struct [221,61]
def bys (l:List UInt8):List AV:=l.map fun b=>.i .u8 b.toNat
@[simp] theorem zo0 (l:List UInt8):(bys l).length=l.length:=by simp[bys]
@[simp] theorem zpc (l:List UInt8):AV.erks (bys l)=bys l:=by simp[bys,AV.erks_eq,AV.erk,Function.comp_def]
@[simp] theorem zrc (l:List UInt8):AV.ers (bys l)=bys l:=by simp[bys,AV.ers_eq,AV.er,Function.comp_def]
theorem zbd (a b:List UInt8):bys a++bys b=bys (a++b):=by simp[bys]
theorem zdK (l:List UInt8) (n:Nat):(bys l).take n=bys (l.take n):=by simp[bys,List.map_take]
theorem zjK (l:List UInt8) (n:Nat):(bys l).drop n=bys (l.drop n):=by simp[bys,List.map_drop]
theorem zfD (n:Nat):List.replicate n (AV.i .u8 0)=bys (List.replicate n 0):=by simp[bys]
theorem WH:∀l,bytesOf (bys l)=some l
 | []=>rfl
 | b::l=>by
  have:=WH l
  simp only[bys,List.map_cons,bytesOf]at this ⊢
  rw[this]
  simp
theorem zj9 (b:Nat) (buf:AV) (hb:buf.erk=buf):q7 Tryz.prog 201 [.av .ptr (.ptr b QR [])] [(b,.var QR (.agg [.nilptr,buf]))] fun r H'=>r=.tup []∧H'=[(b,.var QR (.agg [.ptr b QR [],buf]))]:=by
 refine q7.of_vc laid mixed Tryz.func201 rfl cf0 (by kernel_rfl) (by simp[Tryz.ntmps201]) fun imm0 w0=>?_
 (simp (disch:=first|omega|assumption) [zz])
 refine⟨by kernel_rfl,znX,by kernel_rfl,?_⟩
 (simp (disch:=first|omega|assumption) [zz,Tryz.f201,hb])
theorem zm6 (b:Nat) (buf:AV) (hb:buf.erk=buf):q7 Tryz.prog 201 [.av .ptr (.ptr b QR [])] [(b,.var QR (.agg [.ptr b QR [],buf]))] fun r H'=>r=.tup []∧H'=[(b,.var QR (.agg [.ptr b QR [],buf]))]:=by
 refine q7.of_vc laid mixed Tryz.func201 rfl cf0 (by kernel_rfl) (by simp[Tryz.ntmps201]) fun imm0 w0=>?_
 (simp (disch:=first|omega|assumption) [zz])
 refine⟨by kernel_rfl,?_⟩
 (simp (disch:=first|omega|assumption) [zz,Tryz.f201,hb])
inductive BS (b:Nat) (bs:List UInt8):q8→Prop
 | fresh (p:AV) (hp:p=.nilptr∨p=.ptr b QR []) (h:bs=[]):BS b bs [(b,.var QR (.agg [p,.nsl]))]
 | row (p:AV) (hp:p=.nilptr∨p=.ptr b QR []) (r cap:Nat) (rs:List UInt8) (hc:bs.length+rs.length=cap) (h0:0<cap):BS b bs [(b,.var QR (.agg [p,.msl r 5 0 bs.length cap])),(r,.var (.arr cap 5) (.agg (bys (bs++rs))))]
theorem zjH (b:Nat) (p buf:AV) (hp:p=.nilptr∨p=.ptr b QR []) (hb:buf.erk=buf):q7 Tryz.prog 201 [.av .ptr (.ptr b QR [])] [(b,.var QR (.agg [p,buf]))] fun r H'=>r=.tup []∧H'=[(b,.var QR (.agg [.ptr b QR [],buf]))]:=by
 rcases hp with rfl|rfl
 ·exact zj9 b buf hb
 ·exact zm6 b buf hb
theorem BS.er {b:Nat} {bs:List UInt8} {H:q8} (h:BS b bs H):H.er=H:=by
 cases h with
 | fresh p hp h=>rcases hp with rfl|rfl<;>simp[q8.er,HObj.er,AV.erk,AV.erks]
 | row p hp r cap rs hc h0=>rcases hp with rfl|rfl<;>simp[q8.er,HObj.er,AV.erk,AV.erks]
def BSs (b:Nat) (bs:List UInt8) (H:q8):Prop:=∃H2,HSub H2 H∧BS b bs H2
theorem q7.bss {P:Program} {f:FuncId} {args:List TV} {H:q8} {r0:TV} {b:Nat} {bs:List UInt8} (h:q7 P f args H fun r H'=>r=r0∧BSs b bs H'):q7 P f args H fun r H'=>r=r0∧BS b bs H' :=
 h.sub fun r H' ⟨h1,H2,h2,h3⟩ _=>⟨H2,h2,h1,h3⟩
set_option maxHeartbeats 4000000 in
theorem zp2 (b:Nat) (bs x:List UInt8) (H:q8) (hB:BS b bs H) (hl:bs.length+x.length≤100000000000) :
  q7 Tryz.prog 158 [.av .ptr (.ptr b QR []),.av .str (.s x)] H fun r H'=>r=.tup [(.int .i64,.i .i64 x.length),(.iface,.nilifc)]∧BS b (bs++x) H':=by
 refine q7.bss <| q7.nodup fun hnd=>?_
 have ebx:(x.map fun b=>AV.i .u8 b.toNat)=bys x:=rfl
 cases hB with
 | fresh p hp h =>
  subst h
  simp at hl
  refine q7.of_vc laid mixed Tryz.func158 rfl cf0 (by kernel_rfl) (by simp[Tryz.ntmps158]) fun imm0 w0=>?_
  (simp (disch:=first|omega|assumption) [zz])
  refine jP (R:=fun r H'=>r=.tup []∧H'=[(b,.var QR (.agg [.ptr b QR [],.nsl]))]) rfl (by simp[qQ]) (by simp) ?_ ?_
  ·have hpe:p.erk=p:=by rcases hp with rfl|rfl<;>rfl
   simpa[TV.er,AV.er,q8.er_cons,q8.er_nil,HObj.er,AV.erk,AV.erks,hpe]using zjH b p .nsl hp rfl
  rintro r H' ⟨rfl,rfl⟩
  (simp (disch:=first|omega|assumption) [zz])
  refine⟨by omega,fun hx=>?_,fun hx r cap hr hcap=>?_⟩
  ·subst hx
   (simp (disch:=first|omega|assumption) [zz,Tryz.f158])
   exact⟨_,HSub.refl _,.fresh _ (.inr rfl) rfl⟩
  ·have hr':¬b=r:=fun e=>hr e.symm
   (simp (disch:=first|omega|assumption) [zz,Tryz.f158,hr,hr',ebx,zfD,zbd])
   refine⟨_,HSub.of_perm (List.Perm.swap _ _ _),?_⟩
   have:=BS.row (b:=b) (bs:=x) (.ptr b QR []) (.inr rfl) r cap (List.replicate (cap-x.length) 0) (by simp;omega) (by omega)
   exact this
 | row p hp r cap rs hc h0 =>
  simp[q8.keys]at hnd
  have hnd':¬r=b:=fun e=>hnd e.symm
  have etk:(bys (bs++rs)).take bs.length=bys bs:=by rw[zdK,List.take_left]
  have edr:(bys (bs++rs)).drop (bs.length+x.length)=bys (rs.drop x.length):=by
   rw[zjK,List.drop_append,List.drop_eq_nil_of_le (by omega),List.nil_append,Nat.add_sub_cancel_left]
  refine q7.of_vc laid mixed Tryz.func158 rfl cf0 (by kernel_rfl) (by simp[Tryz.ntmps158]) fun imm0 w0=>?_
  (simp (disch:=first|omega|assumption) [zz])
  refine qE (R:=fun r' H'=>r'=.tup []∧H'=[(b,.var QR (.agg [.ptr b QR [],.msl r 5 0 bs.length cap]))]) [(b,.var QR (.agg [p,.msl r 5 0 bs.length cap]))] [(r,.var (.arr cap 5) (.agg (bys (bs++rs))))] (List.Perm.refl _) rfl (by simp[qQ]) (by simp) ?_ ?_
  ·have hpe:p.erk=p:=by rcases hp with rfl|rfl<;>rfl
   simpa[TV.er,AV.er,q8.er_cons,q8.er_nil,HObj.er,AV.erk,AV.erks,hpe]using zjH b p (.msl r 5 0 bs.length cap) hp rfl
  rintro r' H' ⟨rfl,rfl⟩ _
  refine⟨_,HSub.refl _,?_⟩
  (simp (disch:=first|omega|assumption) [zz,hnd,hnd',etk,edr,ebx,zbd])
  refine⟨by omega,by omega,fun hx=>?_,fun hx r2 cap2 hr2 hr2' hcap2=>?_⟩
  ·(simp (disch:=first|omega|assumption) [zz,Tryz.f158,hnd,hnd'])
   refine⟨_,HSub.refl _,?_⟩
   have:=BS.row (b:=b) (bs:=bs++x) (.ptr b QR []) (.inr rfl) r cap (rs.drop x.length) (by simp;omega) h0
   simpa using this
  ·have hr2b:¬b=r2:=fun e=>hr2 e.symm
   (simp (disch:=first|omega|assumption) [zz,Tryz.f158,hr2,hr2b,hr2',hnd,hnd',zfD,zbd])
   refine⟨_,⟨_,List.Perm.swap _ _ _,((List.Sublist.refl _).cons _).cons_cons _ |>.cons_cons _⟩,?_⟩
   have:=BS.row (b:=b) (bs:=bs++x) (.ptr b QR []) (.inr rfl) r2 cap2 (List.replicate (cap2-(bs.length+x.length)) 0) (by simp;omega) (by omega)
   simpa using this
set_option maxHeartbeats 4000000 in
theorem zav (b:Nat) (bs:List UInt8) (H:q8) (hB:BS b bs H) (hl:bs.length≤100000000000) :
  q7 Tryz.prog 160 [.av .ptr (.ptr b QR [])] H fun r H'=>r=.av .str (.s bs):=by
 refine q7.nodup fun hnd=>?_
 cases hB with
 | fresh p hp h =>
  subst h
  refine q7.of_vc laid mixed Tryz.func160 rfl cf0 (by kernel_rfl) (by simp[Tryz.ntmps160]) fun imm0 w0=>?_
  (simp (disch:=first|omega|assumption) [zz,Tryz.f160])
  (show UZ _ _=true;kernel_rfl)
 | row p hp r cap rs hc h0 =>
  simp[q8.keys]at hnd
  have hnd':¬r=b:=fun e=>hnd e.symm
  have hc0:¬cap=0:=by omega
  have etk:(bys (bs++rs)).take bs.length=bys bs:=by rw[zdK,List.take_left]
  have hbo:=WH bs
  refine q7.of_vc laid mixed Tryz.func160 rfl cf0 (by kernel_rfl) (by simp[Tryz.ntmps160]) fun imm0 w0=>?_
  (simp (disch:=first|omega|assumption) [zz,hnd,hnd',etk,hc0,hbo])
  refine⟨(show UZ _ _=true by kernel_rfl),by kernel_rfl,by omega,by omega,?_⟩
  (simp (disch:=first|omega|assumption) [zz,Tryz.f160])
end Go.Proofs.YthgocigdldgpgaaGreatDoor
end
section
set_option maxRecDepth 100000
namespace Go.Proofs.YthgocigdldgpgaaGreatDoor
open Go Go.Ab
open Classical
variable [Sel] [SelPow] [SelMax]
theorem zih {s sub:List UInt8} {i:Nat} (h1:i≤s.length) (h2:Lib.occAt s sub i=true):∃m:Nat,Lib.index s sub=m∧Lib.occAt s sub m=true∧m≤s.length:=by
 induction i using Nat.strongRecOn with
 | ind i ih =>
  by_cases hf:∀j,j<i→Lib.occAt s sub j=false
  ·exact⟨i,Lib.index_first h1 h2 hf,h2,h1⟩
  ·obtain⟨j,hj⟩:=Classical.not_forall.1 hf
   obtain⟨hji,hj2⟩:=Classical.not_imp.1 hj
   exact ih j hji (by omega) (by simpa using hj2)
theorem WQ:∀ {l cur x:List UInt8},x∈kA cur l→∃a b,cur++l=a++x++b
 | [],cur,x,h=>by
  unfold kA at h
  split at h
  ·cases h
  ·simp only[List.mem_singleton]at h;subst h;exact⟨[],[],by simp⟩
 | c::r,cur,x,h=>by
  unfold kA at h
  split at h
  ·split at h
   ·rename_i hc
    obtain⟨a,b,e⟩:=WQ h
    subst hc
    refine⟨c::a,b,?_⟩
    simp only[List.nil_append]at e ⊢
    rw[e];simp
   ·rcases List.mem_cons.1 h with rfl|h
    ·exact⟨[],c::r,by simp⟩
    ·obtain⟨a,b,e⟩:=WQ h
     refine⟨cur++c::a,b,?_⟩
     simp only[List.nil_append]at e
     rw[e];simp
  ·obtain⟨a,b,e⟩:=WQ h
   exact⟨a,b,by rw[←e];simp⟩
theorem zeb {s:Txt} (h:tText∈zR s):∃m:Nat,Lib.index s tText=m∧m+4≤s.length:=by
 obtain⟨a,b,e⟩:=WQ h
 simp only[List.nil_append]at e
 have hocc:Lib.occAt s tText a.length=true:=by
  unfold Lib.occAt
  rw[e]
  simp[List.isPrefixOf_iff_prefix]
 obtain⟨m,h1,h2,h3⟩:=zih (by rw[e];simp) hocc
 refine⟨m,h1,?_⟩
 rcases Lib.occAt_room h2 with h|h
 ·exact h
 ·cases h
noncomputable def kJ (c:CmdV):HObj:=.var QE (zK c)
def Y3 (x:Option (Option CmdV)) (r:TV) (H':q8):Prop:=match x with
 | none=>r=.tup [(.ptr,.nilptr),(.bool,.b false)]∧H'=[]
 | some none=>r=.tup [(.ptr,.nilptr),(.bool,.b true)]∧H'=[]
 | some (some c)=>∃b,r=.tup [(.ptr,.ptr b QE []),(.bool,.b true)]∧H'=[(b,kJ c)]
@[simp] theorem zml:qZ Tryz.prog 196=true:=by kernel_rfl
@[simp] theorem zq5:z8 Tryz.prog (.func 196)=false:=q9 zml
@[simp] theorem zkr:qZ Tryz.prog 144=true:=by kernel_rfl
@[simp] theorem zqg:z8 Tryz.prog (.func 144)=false:=q9 zkr
set_option maxHeartbeats 4000000 in
theorem CZ (l:Txt) (hl:l.length≤1000000):PC Tryz.prog 196 [.av .str (.s l)] (.av .str (.s l)):=by
 unfold PC
 refine q7.sub (R:=fun r H'=>r=.av .str (.s l)) ?_ (fun r H' hr _=>⟨[],HSub.of_sub (List.nil_sublist _),hr,rfl⟩)
 refine q7.of_vc laid mixed Tryz.func196 rfl cf0 (by kernel_rfl) (by simp[Tryz.ntmps196]) fun imm0 w0=>?_
 by_cases h0:l=[]
 ·subst h0
  (simp (disch:=first|omega|assumption) [zz,-List.reduceReplicate,Tryz.f196])
 ·have hp:0<l.length:=List.length_pos_iff.2 h0
  have h0':¬(l.length:Int)=0:=by omega
  have hbo:bytesOf (List.take l.length (l.map fun b=>AV.i .u8 (b.toNat:Int)))=some l:=by
   rw[List.take_of_length_le (by simp)]
   exact WH l
  (simp (disch:=first|omega|assumption) [zz,-List.reduceReplicate,h0,h0'])
  refine⟨by omega,by omega,fun b=>⟨hp,by kernel_rfl,by omega,?_⟩⟩
  rw[hbo]
  (simp (disch:=first|omega|assumption) [zz,-List.reduceReplicate,Tryz.f196])
theorem p0 (l:Txt) (hl:l.length≤1000000):PC Tryz.prog 144 [.av .str (.s l)] (.av .str (.s l)):=by
 refine PC.of <| q7.of_vc laid mixed Tryz.func144 rfl cf0 (by kernel_rfl) (by simp[Tryz.ntmps144]) fun imm0 w0=>?_
 (simp (disch:=first|omega|assumption) [zz,-List.reduceReplicate])
 refine qL (CZ l hl) rfl rfl (by simp) (by simp[qS,TV.er,AV.er]) ?_
 (simp (disch:=first|omega|assumption) [zz,-List.reduceReplicate,Tryz.f144])
theorem zgw (n:Txt) (h:(jU n).2=true):(jU n).1=2∨(jU n).1=3:=by
 unfold jU at h ⊢
 by_cases a:n=zZ∨n=w8∨n=j8
 ·rw[if_pos a];simp
 rw[if_neg a]at h ⊢
 by_cases b:n=jT
 ·rw[if_pos b];simp
 rw[if_neg b]at h ⊢
 by_cases c:n=yO∨n=wQ∨n=kG
 ·rw[if_pos c]at h;cases h
 rw[if_neg c]at h
 by_cases d:n=wP∨n=y4∨n=kV∨n=kY∨n=yR
 ·rw[if_pos d]at h;cases h
 ·rw[if_neg d]at h;cases h
abbrev zrj:Cfg:=⟨fun n=>n==38||n==66,fun n=>n==1000006||n==2000038⟩
set_option maxHeartbeats 8000000 in
theorem zhN (l:Txt) (hl:l.length≤1000000):q7 Tryz.prog 104 [.av .str (.s l)] [] (Y3 (Z0 l)):=by
 obtain⟨X,hX⟩:∃X,Z0 l=X:=⟨_,rfl⟩
 rw[hX]
 unfold Z0 at hX
 obtain⟨ws,hws⟩:∃ws,zR l=ws:=⟨_,rfl⟩
 have hw:=zdn l hl
 have heach:∀w∈ws,w≠[]∧w.length≤l.length:=fun w hw=>by
  rw[←hws]at hw
  have:=ZI hw
  exact⟨this.1,by simpa using this.2⟩
 have htx:tText∈ws→∃m:Nat,Lib.index l tText=m∧m+4≤l.length:=fun h=>zeb (hws▸h)
 have hwl:ws.length≤l.length+1:=by rw[←hws];exact uI
 rw[hws]at hX hw
 refine q7.of_vc laid mixed Tryz.func104 rfl zrj (by kernel_rfl) (by simp[Tryz.ntmps104]) fun imm0 w0=>?_
 (simp (disch:=first|omega|assumption) [zz,-List.reduceReplicate])
 refine qL hw rfl rfl (by simp) (by simp[qS,TV.er,AV.er]) ?_
 match ws,hX,heach,htx,hwl with
 | [],hX,_,_,_ =>
  simp only at hX
  (simp (disch:=first|omega|assumption) [zz,-List.reduceReplicate,strs,Tryz.f104,←hX,Y3])
 | w::wr,hX,heach,htx,hwl =>
  simp only at hX
  obtain⟨hne,hwlen⟩:=heach w (by simp)
  obtain⟨c,w',rfl⟩:=List.exists_cons_of_ne_nil hne
  have hnz:¬(wr.length:Int)+1=0:=by omega
  by_cases hc:c=35
  ·subst hc
   rw[if_pos (show ((35:UInt8)::w').head?=some 35 from rfl)]at hX
   (simp (disch:=first|omega|assumption) [zz,-List.reduceReplicate,strs,hnz])
   (simp (disch:=first|omega|assumption) [zz,-List.reduceReplicate,Tryz.f104,←hX,Y3])
  rw[if_neg (by simpa using hc)]at hX
  have hc':¬(c.toNat:Int)=35:=by have:=YH (n:=35) (by omega) hc;simpa using this
  by_cases htt:c::w'=tText
  ·rw[if_pos htt]at hX
   obtain⟨m,hm,hml⟩:=htx (by rw[←htt];simp)
   have hcc:c=116∧w'=[101,120,116]:=by simpa[tText]using htt
   obtain⟨rfl,rfl⟩:=hcc
   (simp (disch:=first|omega|assumption) [zz,-List.reduceReplicate,strs,hnz,hc'])
   refine qL (ziG l tText (by omega)) rfl rfl (by simp) (by simp[qS,coC,TV.er,AV.er,tText]) ?_
   rw[hm]
   have h4:(0:Int)≤(m:Int)+4:=by omega
   have h4':(m:Int)+4≤l.length:=by omega
   (simp (disch:=first|omega|assumption) [zz,-List.reduceReplicate,h4,h4'])
   refine jW.of [0,1,2,3,4,5,6,7,8,9,10,11] [] (by kernel_rfl) ?_
   obtain⟨rs,hrs⟩:∃rs,rs=l.drop (m+4):=⟨_,rfl⟩
   have hrest:List.drop 1 (List.drop ((Lib.index l tText).toNat+4) l)=rs.drop 1:=by rw[hm,hrs];rfl
   rw[hrest]at hX
   have hmn:min 1 rs.length≤rs.length:=Nat.min_le_right _ _
   by_cases hr1:rs.length<1
   ·have hr1':(rs.length:Int)<1:=by omega
    have hrn:rs=[]:=List.length_eq_zero_iff.1 (by omega)
    subst hrn
    (simp (disch:=first|omega|assumption) [zz,-List.reduceReplicate,h4,h4',←hrs])
    (repeat with_reducible refine om ?_)
    refine jC (p0 [] (by simp)) rfl rfl (by simp) (by simp[qS,TV.er,AV.er]) ?_
    (simp (disch:=first|omega|assumption) [zz,-List.reduceReplicate])
    (repeat with_reducible refine om ?_)
    intro bb
    (simp (disch:=first|omega|assumption) [zz,-List.reduceReplicate,Tryz.f104,←hX,Y3])
    simp[kJ,zK,strs,AV.ers_eq,Function.comp_def,AV.er]
   ·have hr1':¬(rs.length:Int)<1:=by omega
    have hr2:1≤rs.length:=by omega
    have hrl:rs.length≤l.length:=by rw[hrs,List.length_drop];omega
    (simp (disch:=first|omega|assumption) [zz,-List.reduceReplicate,h4,h4',←hrs,hr1',hr2])
    (repeat with_reducible refine om ?_)
    refine jC (p0 (rs.drop 1) (by rw[List.length_drop];omega)) rfl rfl (by simp) (by simp[qS,TV.er,AV.er]) ?_
    (simp (disch:=first|omega|assumption) [zz,-List.reduceReplicate])
    (repeat with_reducible refine om ?_)
    intro bb
    (simp (disch:=first|omega|assumption) [zz,-List.reduceReplicate,Tryz.f104,←hX,Y3])
    simp[kJ,zK,strs,AV.ers_eq,Function.comp_def,AV.er]
  rw[if_neg htt]at hX
  have htt':¬(c=116∧w'=[101,120,116]):=by simpa[tText]using htt
  (simp (disch:=first|omega|assumption) [zz,-List.reduceReplicate,strs,hnz,hc',htt'])
  refine qL (zj8 (c::w')) rfl rfl (by simp) (by simp[qS,TV.er,AV.er]) ?_
  have htk:=zgw (c::w')
  obtain⟨tk,htke⟩:∃x,x=jU (c::w'):=⟨_,rfl⟩
  obtain⟨tn,tp⟩:=tk
  rw[←htke]at hX htk ⊢
  simp only at hX htk ⊢
  by_cases h1:tn=(wr.length:Int)+1
  rotate_left
  ·rw[if_pos (.inl h1)]at hX
   (simp (disch:=first|omega|assumption) [zz,-List.reduceReplicate,h1])
   (simp (disch:=first|omega|assumption) [zz,-List.reduceReplicate,Tryz.f104,←hX,Y3])
  subst h1
  have hz:¬(wr.length:Int)+1=0:=by omega
  cases tp with
  | false =>
   rw[if_neg (by simp;omega)]at hX
   (simp (disch:=first|omega|assumption) [zz,-List.reduceReplicate,hz])
   intro bb
   (simp (disch:=first|omega|assumption) [zz,-List.reduceReplicate,Tryz.f104,←hX,Y3])
   simp[kJ,zK,strs,AV.ers_eq,Function.comp_def,AV.er]
  | true =>
   have hwr:wr≠[]:=by
    rintro rfl
    have:=htk rfl
    simp at this
   obtain⟨p,wr',rfl⟩:=List.exists_cons_of_ne_nil hwr
   have hpl:=(heach p (by simp)).2
   have hz2:¬(wr'.length:Int)+1+1=0:=by omega
   have hz3:(1:Int)<(wr'.length:Int)+1+1:=by omega
   (simp (disch:=first|omega|assumption) [zz,-List.reduceReplicate,hz,hz2,hz3])
   refine qL (DL p (by omega)) rfl rfl (by simp) (by simp[qS,TV.er,AV.er]) ?_
   cases hmv:yV p
   ·rw[if_pos (by simp[hmv])]at hX
    (simp (disch:=first|omega|assumption) [zz,-List.reduceReplicate,hmv])
    (simp (disch:=first|omega|assumption) [zz,-List.reduceReplicate,Tryz.f104,←hX,Y3])
   ·rw[if_neg (by simp[hmv];omega)]at hX
    (simp (disch:=first|omega|assumption) [zz,-List.reduceReplicate,hmv])
    intro bb
    (simp (disch:=first|omega|assumption) [zz,-List.reduceReplicate,Tryz.f104,←hX,Y3])
    simp[kJ,zK,strs,AV.ers_eq,Function.comp_def,AV.er]
end Go.Proofs.YthgocigdldgpgaaGreatDoor
end
