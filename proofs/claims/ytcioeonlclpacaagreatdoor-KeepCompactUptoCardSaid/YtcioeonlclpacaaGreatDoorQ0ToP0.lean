/- Numbers as texts. No condition beyond each theorem's own. -/
import Derived.Test.YtcioeonlclpacaaGreatDoorL0
import Derived.Test.YtcioeonlclpacaaGreatDoorShelf
import Derived.Test.YtcioeonlclpacaaGreatDoorS3ToS8
set_option linter.unusedSimpArgs false
set_option linter.unusedVariables false
set_option linter.unusedSectionVars false
section
set_option maxRecDepth 100000
namespace Go.Proofs.YtcioeonlclpacaaGreatDoor
open Go Go.Ab
open Classical
variable [Sel] [SelPow]
open Go.Sort (grow)
theorem PC.of_grow {P:Program} {f:FuncId} {args:List TV} {vs0:List Value} {r:TV} {v:Value} (hdet:∀imm w vs,ARs P (g0 imm) w args vs→vs=vs0) (hr:∀imm w,AR P (g0 imm) w r v)
  (h:∀imm w,xV P imm w→Calls P f vs0.toArray w fun e w'=>e=.returned v∧∃k os,w'=grow (w.drewN k) os):PC P f args r:=by
 intro imm w vs hrep hargs
 have:=hdet imm w vs.toList hargs
 have hv:vs=vs0.toArray:=by rw[←this]
 subst hv
 refine(h imm w hrep.tab).mono ?_
 rintro e w' ⟨rfl,k,os,rfl⟩
 have hlt:∀(b:Nat) (o:Obj),w.heap[b]?=some o→(grow (w.drewN k) os).heap[b]?=some o:=by
  intro b o hb
  have h1:=(Array.getElem?_eq_some_iff.1 hb).1
  show (w.heap++os)[b]?=some o
  rw[Array.getElem?_append_left h1];exact hb
 have hk:k5 (g0 imm) w (grow (w.drewN k) os):=fun b cs E fz _ hb=>⟨cs,E,fz,hlt _ _ hb,rfl,fun _ _=>rfl⟩
 refine⟨v,r,imm,[],rfl,⟨rfl,rfl⟩,hr _ _,⟨fun b hb=>?_,by simp[q8.keys],by simp,hrep.tab.keep (g:=g0 imm) (g':=g0 imm) (Gh.le_refl _) hrep.imm hk⟩,?_⟩
 ·obtain⟨cs,E,fz,h1,h2⟩:=hrep.imm b hb
  exact⟨cs,E,fz,hlt _ _ h1,h2⟩
 ·exact {
   os:=rfl,tape:=rfl,output:=rfl,drawn:=fun _=>by show w.drawn≤w.drawn+k;omega
   size:=by show w.heap.size≤(w.heap++os).size;simp
   frame:=fun b hb _=>⟨by show (w.heap++os)[b]?=_;rw[Array.getElem?_append_left hb],rfl⟩
   imm:=fun _=>Nat.le_refl _
   kept:=fun b cs E fz h0 hb=>hk b cs E fz h0 hb
   dom:=fun b hb=>by simp[q8.keys]at hb }
theorem zk7 {P:Program} {g:Gh} {w:World} {e:TypeId}:∀(zs:List Int) (cs:List Value),VL P g w e (zs.map (AV.i .u64 ·)) cs→cs=zs.map (Value.int .u64 ·)
 | [],cs,h=>by simpa[VL]using h
 | z::zs,cs,h=>by
  simp only[List.map_cons,VL]at h
  obtain⟨c1,c2,rfl,h1,h2⟩:=h
  have:=zk7 zs c2 h2
  simp only[VC]at h1
  rw[h1.2,this];rfl
theorem zrt:Tryz.prog.globalNamed "internal/strconv.uint64pow10" = some 1:=by kernel_rfl
theorem ziP:(1,TyD.arr 20 228,AV.agg (Lib.pow10Tab.map (AV.i .u64 ·)))∈zcT Tryz.prog:=by
 have h1:qD Tryz.prog ((Tryz.prog.globals[1]?).get (by kernel_rfl)).type=.arr 20 228:=by kernel_rfl
 rw[←h1]
 exact zhZ (gl:=(Tryz.prog.globals[1]?).get (by kernel_rfl)) (by kernel_rfl) (by kernel_rfl) SelPow.pow
theorem zpy {imm:Nat→Nat} {w:World} (h:xV Tryz.prog imm w):Lib.TabIs Tryz.prog w "internal/strconv.uint64pow10" .u64 Lib.pow10Tab:=by
 obtain⟨h1,h2,h3,cs,E,fz,h4,h5⟩:=h.1 _ _ _ ziP
 have hsz:szD Tryz.prog (.arr 20 228)=20:=by simp[szD]
 rw[hsz]at h2 h5
 simp only[VC]at h2
 have hv:=zk7 _ _ h2.2
 have hc:zP w 1 0 20=cs.toList:=by
  unfold zP
  rw[h4]
  simp only[List.drop_zero]
  exact List.take_of_length_le (by simp[h5])
 rw[hc]at hv
 unfold Lib.TabIs World.var?
 rw[zrt]
 simp only[Option.bind_some,h4]
 rw[←hv]
@[simp] theorem zkZ:qZ Tryz.prog 158=true:=by kernel_rfl
@[simp] theorem zqd:z8 Tryz.prog (.func 158)=false:=q9 zkZ
@[simp] theorem zkM:qZ Tryz.prog 112=true:=by kernel_rfl
@[simp] theorem zqf:z8 Tryz.prog (.func 112)=false:=q9 zkM
@[simp] theorem zkD:qZ Tryz.prog 103=true:=by kernel_rfl
@[simp] theorem zqh:z8 Tryz.prog (.func 103)=false:=q9 zkD
theorem zEw (n:Int) (h0:-9223372036854775808≤n) (h1:n≤9223372036854775807):PC Tryz.prog 158 [.av (.int .i64) (.i .i64 n),.av (.int .i64) (.i .i64 10)] (.av .str (.s (Lib.itoa n))):=by
 refine PC.of_grow (vs0:=[.int .i64 n,.int .i64 10]) (v:=.string ⟨(Lib.itoa n).toArray⟩) ?_ (fun _ _=>⟨rfl,rfl,rfl⟩) fun imm w ht=>Tryz.strconv_FormatInt_10 n h0 h1 w (zpy ht)
 intro imm w vs h
 match vs,h with
 | [a,b],⟨⟨f1,_,h1⟩,⟨f2,_,h2⟩,_⟩ =>
  rw[qR rfl f1]at h1
  rw[qR rfl f2]at h2
  simp at h1 h2
  rw[h1,h2]
theorem zlV (n:Int) (h0:-9223372036854775808≤n) (h1:n≤9223372036854775807):PC Tryz.prog 112 [.av (.int .i64) (.i .i64 n)] (.av .str (.s (Lib.itoa n))):=by
 refine PC.of_grow (vs0:=[.int .i64 n]) (v:=.string ⟨(Lib.itoa n).toArray⟩) ?_ (fun _ _=>⟨rfl,rfl,rfl⟩) fun imm w ht=>Tryz.strconv_Itoa n h0 h1 w (zpy ht)
 intro imm w vs h
 match vs,h with
 | [a],⟨⟨f1,_,h1⟩,_⟩ =>
  rw[qR rfl f1]at h1
  simp at h1
  rw[h1]
theorem zFF (n:Int) (h0:-9223372036854775808≤n) (h1:n≤9223372036854775807):PC Tryz.prog 103 [.av (.int .i64) (.i .i64 n)] (.av .str (.s (Lib.itoa n))):=by
 refine zow Tryz.func103 cf0 fun imm0 w0=>?_
 simp (disch:=omega) [zz]
 refine qL (zEw n h0 h1) rfl rfl (by simp) (by simp[qS,TV.er,AV.er,coC]) ?_
 simp (disch:=omega) [zz,Tryz.f103]
end Go.Proofs.YtcioeonlclpacaaGreatDoor
end
section
set_option maxRecDepth 100000
namespace Go.Proofs.YtcioeonlclpacaaGreatDoor
open Go Go.Ab
open Classical
variable [Sel]
@[simp] theorem zkE:qZ Tryz.prog 163=true:=by kernel_rfl
@[simp] theorem zqV:z8 Tryz.prog (.func 163)=false:=q9 zkE
@[simp] theorem zkj:qZ Tryz.prog 111=true:=by kernel_rfl
@[simp] theorem zq3:z8 Tryz.prog (.func 111)=false:=q9 zkj
@[simp] theorem zmJ:qZ Tryz.prog 113=true:=by kernel_rfl
@[simp] theorem zqK:z8 Tryz.prog (.func 113)=false:=q9 zmJ
@[simp] theorem zmQ:qZ Tryz.prog 114=true:=by kernel_rfl
@[simp] theorem zqv:z8 Tryz.prog (.func 114)=false:=q9 zmQ
@[simp] theorem zsK:qD Tryz.prog 265=.other:=by kernel_rfl
@[simp] theorem zrG:z8 Tryz.prog (.func 190)=true:=by kernel_rfl
theorem znX:zpe Tryz.prog (.func 190):=⟨_,Tryz.func190,by kernel_rfl,by kernel_rfl,by kernel_rfl,by kernel_rfl⟩
abbrev QR:TyD:=.struct [190,144]
def bys (l:List UInt8):List AV:=l.map fun b=>.i .u8 b.toNat
@[simp] theorem zo0 (l:List UInt8):(bys l).length=l.length:=by simp[bys]
@[simp] theorem zpc (l:List UInt8):AV.erks (bys l)=bys l:=by simp[bys,AV.erks_eq,AV.erk,Function.comp_def]
@[simp] theorem zrc (l:List UInt8):AV.ers (bys l)=bys l:=by simp[bys,AV.ers_eq,AV.er,Function.comp_def]
theorem zbd (a b:List UInt8):bys a++bys b=bys (a++b):=by simp[bys]
theorem zdK (l:List UInt8) (n:Nat):(bys l).take n=bys (l.take n):=by simp[bys,List.map_take]
theorem zjK (l:List UInt8) (n:Nat):(bys l).drop n=bys (l.drop n):=by simp[bys,List.map_drop]
theorem zfD (n:Nat):List.replicate n (AV.i .u8 0)=bys (List.replicate n 0):=by simp[bys]
theorem WH:∀l,bytesOf (bys l)=some l
 | []=>rfl
 | b::l=>by
  have:=WH l
  simp only[bys,List.map_cons,bytesOf]at this ⊢
  rw[this]
  simp
theorem zj9 (b:Nat) (buf:AV) (hb:buf.erk=buf):q7 Tryz.prog 163 [.av .ptr (.ptr b QR [])] [(b,.var QR (.agg [.nilptr,buf]))] fun r H'=>r=.tup []∧H'=[(b,.var QR (.agg [.ptr b QR [],buf]))]:=by
 refine zov Tryz.func163 cf0 fun imm0 w0=>?_
 simp (disch:=omega) [zz]
 refine⟨by kernel_rfl,znX,by kernel_rfl,?_⟩
 simp (disch:=omega) [zz,Tryz.f163,hb]
theorem zm6 (b:Nat) (buf:AV) (hb:buf.erk=buf):q7 Tryz.prog 163 [.av .ptr (.ptr b QR [])] [(b,.var QR (.agg [.ptr b QR [],buf]))] fun r H'=>r=.tup []∧H'=[(b,.var QR (.agg [.ptr b QR [],buf]))]:=by
 refine zov Tryz.func163 cf0 fun imm0 w0=>?_
 simp (disch:=omega) [zz]
 refine⟨by kernel_rfl,?_⟩
 simp (disch:=omega) [zz,Tryz.f163,hb]
inductive BS (b:Nat) (bs:List UInt8):q8→Prop
 | fresh (p:AV) (hp:p=.nilptr∨p=.ptr b QR []) (h:bs=[]):BS b bs [(b,.var QR (.agg [p,.nsl]))]
 | row (p:AV) (hp:p=.nilptr∨p=.ptr b QR []) (r cap:Nat) (rs:List UInt8) (hc:bs.length+rs.length=cap) (h0:0<cap):BS b bs [(b,.var QR (.agg [p,.msl r 5 0 bs.length cap])),(r,.var (.arr cap 5) (.agg (bys (bs++rs))))]
theorem zjH (b:Nat) (p buf:AV) (hp:p=.nilptr∨p=.ptr b QR []) (hb:buf.erk=buf):q7 Tryz.prog 163 [.av .ptr (.ptr b QR [])] [(b,.var QR (.agg [p,buf]))] fun r H'=>r=.tup []∧H'=[(b,.var QR (.agg [.ptr b QR [],buf]))]:=by
 rcases hp with rfl|rfl
 ·exact zj9 b buf hb
 ·exact zm6 b buf hb
theorem BS.er {b:Nat} {bs:List UInt8} {H:q8} (h:BS b bs H):H.er=H:=by
 cases h with
 | fresh p hp h=>rcases hp with rfl|rfl<;>simp[q8.er,HObj.er,AV.erk,AV.erks]
 | row p hp r cap rs hc h0=>rcases hp with rfl|rfl<;>simp[q8.er,HObj.er,AV.erk,AV.erks]
def BSs (b:Nat) (bs:List UInt8) (H:q8):Prop:=∃H2,HSub H2 H∧BS b bs H2
theorem q7.bss {P:Program} {f:FuncId} {args:List TV} {H:q8} {r0:TV} {b:Nat} {bs:List UInt8} (h:q7 P f args H fun r H'=>r=r0∧BSs b bs H'):q7 P f args H fun r H'=>r=r0∧BS b bs H' :=
 h.sub fun r H' ⟨h1,H2,h2,h3⟩ _=>⟨H2,h2,h1,h3⟩
set_option maxHeartbeats 4000000 in
theorem zp2 (b:Nat) (bs x:List UInt8) (H:q8) (hB:BS b bs H) (hl:bs.length+x.length≤100000000000) :
  q7 Tryz.prog 111 [.av .ptr (.ptr b QR []),.av .str (.s x)] H fun r H'=>r=.tup [(.int .i64,.i .i64 x.length),(.iface,.nilifc)]∧BS b (bs++x) H':=by
 refine q7.bss <| q7.nodup fun hnd=>?_
 have ebx:(x.map fun b=>AV.i .u8 b.toNat)=bys x:=rfl
 cases hB with
 | fresh p hp h =>
  subst h
  simp at hl
  refine zov Tryz.func111 cf0 fun imm0 w0=>?_
  simp (disch:=omega) [zz]
  refine jP (R:=fun r H'=>r=.tup []∧H'=[(b,.var QR (.agg [.ptr b QR [],.nsl]))]) rfl (by simp[qQ]) (by simp) ?_ ?_
  ·have hpe:p.erk=p:=by rcases hp with rfl|rfl<;>rfl
   simpa[TV.er,AV.er,q8.er_cons,q8.er_nil,HObj.er,AV.erk,AV.erks,hpe]using zjH b p .nsl hp rfl
  rintro r H' ⟨rfl,rfl⟩
  simp (disch:=omega) [zz]
  refine⟨by omega,fun hx=>?_,fun hx r cap hr hcap=>?_⟩
  ·subst hx
   simp (disch:=omega) [zz,Tryz.f111]
   exact⟨_,HSub.refl _,.fresh _ (.inr rfl) rfl⟩
  ·have hr':¬b=r:=fun e=>hr e.symm
   simp (disch:=omega) [zz,Tryz.f111,hr,hr',ebx,zfD,zbd]
   refine⟨_,HSub.of_perm (List.Perm.swap _ _ _),?_⟩
   have:=BS.row (b:=b) (bs:=x) (.ptr b QR []) (.inr rfl) r cap (List.replicate (cap-x.length) 0) (by simp;omega) (by omega)
   exact this
 | row p hp r cap rs hc h0 =>
  simp[q8.keys]at hnd
  have hnd':¬r=b:=fun e=>hnd e.symm
  have etk:(bys (bs++rs)).take bs.length=bys bs:=by rw[zdK,List.take_left]
  have edr:(bys (bs++rs)).drop (bs.length+x.length)=bys (rs.drop x.length):=by
   rw[zjK,List.drop_append,List.drop_eq_nil_of_le (by omega),List.nil_append,Nat.add_sub_cancel_left]
  refine zov Tryz.func111 cf0 fun imm0 w0=>?_
  simp (disch:=omega) [zz]
  refine qE (R:=fun r' H'=>r'=.tup []∧H'=[(b,.var QR (.agg [.ptr b QR [],.msl r 5 0 bs.length cap]))]) [(b,.var QR (.agg [p,.msl r 5 0 bs.length cap]))] [(r,.var (.arr cap 5) (.agg (bys (bs++rs))))] (List.Perm.refl _) rfl (by simp[qQ]) (by simp) ?_ ?_
  ·have hpe:p.erk=p:=by rcases hp with rfl|rfl<;>rfl
   simpa[TV.er,AV.er,q8.er_cons,q8.er_nil,HObj.er,AV.erk,AV.erks,hpe]using zjH b p (.msl r 5 0 bs.length cap) hp rfl
  rintro r' H' ⟨rfl,rfl⟩ _
  refine⟨_,HSub.refl _,?_⟩
  simp (disch:=omega) [zz,hnd,hnd',etk,edr,ebx,zbd]
  refine⟨by omega,by omega,fun hx=>?_,fun hx r2 cap2 hr2 hr2' hcap2=>?_⟩
  ·simp (disch:=omega) [zz,Tryz.f111,hnd,hnd']
   refine⟨_,HSub.refl _,?_⟩
   have:=BS.row (b:=b) (bs:=bs++x) (.ptr b QR []) (.inr rfl) r cap (rs.drop x.length) (by simp;omega) h0
   simpa using this
  ·have hr2b:¬b=r2:=fun e=>hr2 e.symm
   simp (disch:=omega) [zz,Tryz.f111,hr2,hr2b,hr2',hnd,hnd',zfD,zbd]
   refine⟨_,⟨_,List.Perm.swap _ _ _,((List.Sublist.refl _).cons _).cons_cons _ |>.cons_cons _⟩,?_⟩
   have:=BS.row (b:=b) (bs:=bs++x) (.ptr b QR []) (.inr rfl) r2 cap2 (List.replicate (cap2-(bs.length+x.length)) 0) (by simp;omega) (by omega)
   simpa using this
set_option maxHeartbeats 4000000 in
theorem zAD (b:Nat) (bs:List UInt8) (x:UInt8) (H:q8) (hB:BS b bs H) (hl:bs.length≤100000000000) :
  q7 Tryz.prog 113 [.av .ptr (.ptr b QR []),.av (.int .u8) (.i .u8 x.toNat)] H fun r H'=>r=.av .iface .nilifc∧BS b (bs++[x]) H':=by
 refine q7.bss <| q7.nodup fun hnd=>?_
 have ebx:[AV.i .u8 x.toNat]=bys [x]:=rfl
 have ebc:∀l,AV.i .u8 x.toNat::bys l=bys (x::l):=fun l=>rfl
 cases hB with
 | fresh p hp h =>
  subst h
  simp at hl
  refine zov Tryz.func113 cf0 fun imm0 w0=>?_
  simp (disch:=omega) [zz]
  refine jP (R:=fun r H'=>r=.tup []∧H'=[(b,.var QR (.agg [.ptr b QR [],.nsl]))]) rfl (by simp[qQ]) (by simp) ?_ ?_
  ·have hpe:p.erk=p:=by rcases hp with rfl|rfl<;>rfl
   simpa[TV.er,AV.er,q8.er_cons,q8.er_nil,HObj.er,AV.erk,AV.erks,hpe]using zjH b p .nsl hp rfl
  rintro r H' ⟨rfl,rfl⟩
  simp (disch:=omega) [zz]
  intro r cap hr hcap
  ·have hr':¬b=r:=fun e=>hr e.symm
   simp (disch:=omega) [zz,Tryz.f113,hr,hr',ebx,ebc,zfD,zbd]
   refine⟨_,HSub.of_perm (List.Perm.swap _ _ _),?_⟩
   have:=BS.row (b:=b) (bs:=[x]) (.ptr b QR []) (.inr rfl) r cap (List.replicate (cap-1) 0) (by simp;omega) (by omega)
   exact this
 | row p hp r cap rs hc h0 =>
  simp[q8.keys]at hnd
  have hnd':¬r=b:=fun e=>hnd e.symm
  have etk:(bys (bs++rs)).take bs.length=bys bs:=by rw[zdK,List.take_left]
  have edr:(bys (bs++rs)).drop (bs.length+1)=bys (rs.drop 1):=by
   rw[zjK,List.drop_append,List.drop_eq_nil_of_le (by omega),List.nil_append,Nat.add_sub_cancel_left]
  refine zov Tryz.func113 cf0 fun imm0 w0=>?_
  simp (disch:=omega) [zz]
  refine qE (R:=fun r' H'=>r'=.tup []∧H'=[(b,.var QR (.agg [.ptr b QR [],.msl r 5 0 bs.length cap]))]) [(b,.var QR (.agg [p,.msl r 5 0 bs.length cap]))] [(r,.var (.arr cap 5) (.agg (bys (bs++rs))))] (List.Perm.refl _) rfl (by simp[qQ]) (by simp) ?_ ?_
  ·have hpe:p.erk=p:=by rcases hp with rfl|rfl<;>rfl
   simpa[TV.er,AV.er,q8.er_cons,q8.er_nil,HObj.er,AV.erk,AV.erks,hpe]using zjH b p (.msl r 5 0 bs.length cap) hp rfl
  rintro r' H' ⟨rfl,rfl⟩ _
  refine⟨_,HSub.refl _,?_⟩
  simp (disch:=omega) [zz,hnd,hnd',etk,edr,ebx,ebc,zbd]
  refine⟨by omega,by omega,fun hx=>?_,fun hx r2 cap2 hr2 hr2' hcap2=>?_⟩
  ·simp (disch:=omega) [zz,Tryz.f113,hnd,hnd']
   refine⟨_,HSub.refl _,?_⟩
   have:=BS.row (b:=b) (bs:=bs++[x]) (.ptr b QR []) (.inr rfl) r cap (rs.drop 1) (by simp;omega) h0
   simpa using this
  ·have hr2b:¬b=r2:=fun e=>hr2 e.symm
   simp (disch:=omega) [zz,Tryz.f113,hr2,hr2b,hr2',hnd,hnd',zfD,zbd]
   refine⟨_,⟨_,List.Perm.swap _ _ _,((List.Sublist.refl _).cons _).cons_cons _ |>.cons_cons _⟩,?_⟩
   have:=BS.row (b:=b) (bs:=bs++[x]) (.ptr b QR []) (.inr rfl) r2 cap2 (List.replicate (cap2-(bs.length+1)) 0) (by simp;omega) (by omega)
   simpa using this
set_option maxHeartbeats 4000000 in
theorem zav (b:Nat) (bs:List UInt8) (H:q8) (hB:BS b bs H) (hl:bs.length≤100000000000) :
  q7 Tryz.prog 114 [.av .ptr (.ptr b QR [])] H fun r H'=>r=.av .str (.s bs):=by
 refine q7.nodup fun hnd=>?_
 cases hB with
 | fresh p hp h =>
  subst h
  refine zov Tryz.func114 cf0 fun imm0 w0=>?_
  simp (disch:=omega) [zz,Tryz.f114]
  (show UZ _ _=true;kernel_rfl)
 | row p hp r cap rs hc h0 =>
  simp[q8.keys]at hnd
  have hnd':¬r=b:=fun e=>hnd e.symm
  have hc0:¬cap=0:=by omega
  have etk:(bys (bs++rs)).take bs.length=bys bs:=by rw[zdK,List.take_left]
  have hbo:=WH bs
  refine zov Tryz.func114 cf0 fun imm0 w0=>?_
  simp (disch:=omega) [zz,hnd,hnd',etk,hc0,hbo]
  refine⟨(show UZ _ _=true by kernel_rfl),by kernel_rfl,by omega,by omega,?_⟩
  simp (disch:=omega) [zz,Tryz.f114]
end Go.Proofs.YtcioeonlclpacaaGreatDoor
end
section
set_option maxRecDepth 100000
namespace Go.Proofs.YtcioeonlclpacaaGreatDoor
open Go Go.Ab
open Classical
variable [Sel] [SelPow]
@[simp] theorem zGb:qZ Tryz.prog 51=true:=by kernel_rfl
@[simp] theorem zGz:z8 Tryz.prog (.func 51)=false:=q9 zGb
@[simp] theorem zlh:qZ Tryz.prog 102=true:=by kernel_rfl
@[simp] theorem zqR:z8 Tryz.prog (.func 102)=false:=q9 zlh
def WI:List (List UInt8)→List UInt8
 | []=>[]
 | s::l=>Lib.itoa s.length++58::s++WI l
theorem zyZ:∀a b,WI (a++b)=WI a++WI b
 | [],_=>rfl
 | s::a,b=>by
  have:=zyZ a b
  simp only[List.cons_append,WI,this]
  simp
theorem zyO (l:List (List UInt8)) (k:Nat):(WI (l.take k)).length≤(WI l).length:=by
 conv=>rhs;rw[←List.take_append_drop k l,zyZ]
 simp
def zz6 (l:List (List UInt8)):List AV:=l.map AV.s
theorem zzr (p:List (List UInt8)) (k:Nat) (h:k<p.length):(zz6 p)[k]?=some (.s p[k]):=by simp[zz6,List.getElem?_eq_getElem h]
@[simp] theorem zAo (l:List (List UInt8)):(zz6 l).length=l.length:=by simp[zz6]
abbrev zAr:Cfg:=⟨fun n=>n==3,fun n=>n==3⟩
set_option maxHeartbeats 8000000 in
theorem zzx (l:List (List UInt8)) (hn:l.length≤9223372036854775807) (hl:(WI l).length≤10000000000) :
  PC Tryz.prog 51 [.av (.slice 9) (.sl .no (zz6 l))] (.av .str (.s (WI l))):=by
 unfold PC
 refine q7.sub (R:=fun r H'=>r=.av .str (.s (WI l))) ?_ (fun r H' hr _=>⟨[],HSub.of_sub (List.nil_sublist _),hr,rfl⟩)
 refine zov Tryz.func51 zAr fun imm0 w0=>?_
 (simp (maxSteps:=2000000) (disch:=first|omega|assumption) [zz])
 intro b
 refine AT.loop' (α:=Nat × q8) (fun x=>St.of [(3,.av .ptr (.ptr b QR [])),(6,.av (.slice 9) (.sl .no (zz6 l))),(7,.av (.int .i64) (.i .i64 l.length)),(8,.av (.int .i64) (.i .i64 x.1))] [] (fun _=>0) x.2)
  (fun x=>x.1≤l.length∧BS b (WI (l.take x.1)) x.2) (fun x=>l.length-x.1) (0,[(b,.var QR (.agg [.nilptr,.nsl]))]) ?_ ?_ ?_
 ·apply Le.of<;>simp[qU,qG,qO,qH,qP,qK,qF,qI,qJ,qN,zX]<;>try omega
 ·exact⟨by omega,.fresh _ (.inl rfl) rfl⟩
 rintro⟨k,H⟩ ⟨hk,hB⟩ KL hN hE
 simp only at hk hB hN
 refine qM (cf:=zAr) laid mixed _ _ _ (by kernel_rfl) ?_
 have htl:=zyO l k
 by_cases hlt:k<l.length
 ·have hlt':(k:Int)<l.length:=by omega
  have hg:=zzr l k hlt
  have htl2:=zyO l (k+1)
  have hsn:WI (l.take (k+1))=WI (l.take k)++Lib.itoa l[k].length++[58]++l[k]:=by
   rw[List.take_succ_eq_append_getElem hlt,zyZ]
   simp[WI]
  rw[hsn]at htl2
  simp at htl2
  obtain⟨s,hs⟩:∃s,s=l[k]:=⟨_,rfl⟩
  rw[←hs]at hg hsn htl2
  (simp (maxSteps:=2000000) (disch:=first|omega|assumption) [zz,hlt',hg])
  refine zcv (zlV s.length (by omega) (by omega)) ?_
  (simp (maxSteps:=2000000) (disch:=first|omega|assumption) [zz])
  refine jP (R:=fun r H'=>r=.tup [(.int .i64,.i .i64 (Lib.itoa s.length).length),(.iface,.nilifc)]∧BS b (WI (l.take k)++Lib.itoa s.length) H') rfl (by simp[qQ]) (by simp) ?_ ?_
  ·have:=zp2 b (WI (l.take k)) (Lib.itoa s.length) H hB (by omega)
   simpa[TV.er,AV.er,hB.er]using this
  rintro r H1 ⟨rfl,hB1⟩
  (simp (maxSteps:=2000000) (disch:=first|omega|assumption) [zz])
  refine jP (R:=fun r H'=>r=.av .iface .nilifc∧BS b (WI (l.take k)++Lib.itoa s.length++[58]) H') rfl (by simp[qQ]) (by simp) ?_ ?_
  ·show q7 _ _ _ (q8.er H1) _
   rw[hB1.er]
   exact q7.args (zAD b (WI (l.take k)++Lib.itoa s.length) 58 H1 hB1 (by simp;omega)) (by simp[qS,TV.er,AV.er,coC])
  rintro r H2 ⟨rfl,hB2⟩
  (simp (maxSteps:=2000000) (disch:=first|omega|assumption) [zz])
  refine jP (R:=fun r H'=>r=.tup [(.int .i64,.i .i64 s.length),(.iface,.nilifc)]∧BS b (WI (l.take k)++Lib.itoa s.length++[58]++s) H') rfl (by simp[qQ]) (by simp) ?_ ?_
  ·have:=zp2 b (WI (l.take k)++Lib.itoa s.length++[58]) s H2 hB2 (by simp;omega)
   simpa[TV.er,AV.er,hB2.er]using this
  rintro r H3 ⟨rfl,hB3⟩
  (simp (maxSteps:=2000000) (disch:=first|omega|assumption) [zz])
  refine hN _ (k+1,H3) ?_ ⟨by omega,by rw[hsn];exact hB3⟩ (by simp;omega)
  apply Le.of<;>simp[qU,qG,qO,qH,qP,qK,qF,qI,qJ,qN,zX]<;>try omega
 ·have hlt':¬(k:Int)<l.length:=by omega
  (simp (maxSteps:=2000000) (disch:=first|omega|assumption) [zz,hlt'])
  refine hE _ _ (by simp) ?_
  rw[List.take_of_length_le (by omega)]at hB
  (simp (maxSteps:=2000000) (disch:=first|omega|assumption) [zz])
  refine jP (R:=fun r H'=>r=.av .str (.s (WI l))) rfl (by simp[qQ]) (by simp) ?_ ?_
  ·have:=zav b (WI l) H hB (by omega)
   simpa[TV.er,AV.er,hB.er]using this
  rintro r H1 rfl
  (simp (maxSteps:=2000000) (disch:=first|omega|assumption) [zz,Tryz.f51])
abbrev zGl:Cfg:=⟨fun n=>n==1,fun _=>false⟩
theorem zFv (d:Dig):KW d=.agg (bys d):=rfl
theorem zDz (d:Dig) (hd:d.length=32):PC Tryz.prog 102 [.av (.arr 32 5) (KW d)] (.av .str (.s d)):=by
 unfold PC
 refine q7.sub (R:=fun r H'=>r=.av .str (.s d)) ?_ (fun r H' hr _=>⟨[],HSub.of_sub (List.nil_sublist _),hr,rfl⟩)
 refine zov Tryz.func102 zGl fun imm0 w0=>?_
 have h1:(bys d).take 32=bys d:=List.take_of_length_le (by simp[hd])
 have h2:=WH d
 (simp (maxSteps:=2000000) (disch:=first|omega|assumption) [zz,zFv,h1,h2])
 intro b
 (simp (maxSteps:=2000000) (disch:=first|omega|assumption) [zz,Tryz.f102])
def zAw (l:List UInt8):Nat:=l.foldl (fun a b=>a*10+(b.toNat-48)) 0
theorem zyH (u:Nat):zAw (Lib.decDigits u)=u:=by
 induction u using Nat.strongRecOn with
 | ind u ih =>
  have key:∀d:Nat,d<10→(UInt8.ofNat (48+d)).toNat-48=d:=fun d hd=>by simp;omega
  rw[Lib.decDigits]
  split
  ·rename_i h
   simp only[zAw,List.foldl_cons,List.foldl_nil,key u h]
   omega
  ·rename_i h
   have:=ih (u / 10) (by omega)
   unfold zAw at this ⊢
   rw[List.foldl_append,this]
   simp only[List.foldl_cons,List.foldl_nil,key (u % 10) (by omega)]
   omega
theorem zyP (n:Nat):Lib.itoa (n:Int)=Lib.decDigits n:=by
 unfold Lib.itoa
 rw[if_neg (by omega)]
 simp
theorem zyI (s:List UInt8) (l:List (List UInt8)):WI (s::l)=Lib.itoa s.length++58::(s++WI l):=by
 simp[WI]
def be4 (n:Nat):List UInt8:=[UInt8.ofNat (n / 16777216),UInt8.ofNat (n / 65536),UInt8.ofNat (n / 256),UInt8.ofNat n]
def zL9:List UInt8→Nat
 | [a,b,c,d]=>a.toNat*16777216+b.toNat*65536+c.toNat*256+d.toNat
 | _=>0
theorem zNu {n:Nat} (h:n<4294967296):zL9 (be4 n)=n:=by
 simp[zL9,be4];omega
def zKL (r:List UInt8):List UInt8:=be4 r.length++(sha (be4 r.length++r)).take 8
def frame (r:List UInt8):List UInt8:=zKL r++r
def q5 (l:List (List UInt8)):List UInt8:=l.flatMap frame
theorem zKU (l:List UInt8):(sha l).length=32:=zdN _
theorem zK0 (r:List UInt8):(zKL r).length=12:=by simp[zKL,be4,zKU]
theorem zJq (r:List UInt8):(frame r).length=12+r.length:=by simp[frame,zK0]
def g9 (b:List UInt8):Option (List UInt8) :=
 if b.length<12 then none else if 1048576<zL9 (b.take 4)∨b.length-12<zL9 (b.take 4) then none
 else if zKL ((b.drop 12).take (zL9 (b.take 4)))=b.take 12 then some ((b.drop 12).take (zL9 (b.take 4))) else none
def zLX:Nat→List UInt8→List (List UInt8)
 | 0,_=>[]
 | f+1,b=>match g9 b with
  | none=>[]
  | some r=>r::zLX f (b.drop (12+r.length))
def zJc (b:List UInt8):List (List UInt8):=zLX (b.length+1) b
theorem zKq {b r:List UInt8} (h:g9 b=some r):12+r.length≤b.length∧r.length≤1048576:=by
 unfold g9 at h
 split at h
 ·cases h
 split at h
 ·cases h
 split at h
 ·rename_i h1 h2 _
  cases h
  simp only[List.length_take,List.length_drop]
  omega
 ·cases h
theorem zNs {r:List UInt8} (x:List UInt8) (h:r.length≤1048576):g9 (frame r++x)=some r:=by
 have h4:(frame r++x).take 4=be4 r.length:=by simp[frame,zKL,be4]
 have h12:(frame r++x).take 12=zKL r:=by
  rw[frame,List.append_assoc,List.take_append_of_le_length (by rw[zK0];omega),List.take_of_length_le (by rw[zK0];omega)]
 have hd:(frame r++x).drop 12=r++x:=by
  rw[frame,List.append_assoc,List.drop_append,List.drop_eq_nil_of_le (by rw[zK0];omega),zK0];simp
 have hl:(frame r++x).length=12+r.length+x.length:=by rw[List.length_append,zJq]
 unfold g9
 rw[h4,zNu (by omega),h12,hd,if_neg (by omega),if_neg (by omega),List.take_append_of_le_length (by omega),List.take_of_length_le (by omega),if_pos rfl]
theorem zMc:∀ {f g:Nat} {b:List UInt8},b.length<f→b.length<g→zLX f b=zLX g b
 | 0,_,_,h,_=>by omega
 | _,0,_,_,h=>by omega
 | f+1,g+1,b,h1,h2=>by
  unfold zLX
  cases h:g9 b with
  | none=>rfl
  | some r =>
   have:=(zKq h).1
   simp only
   rw[zMc (f:=f) (g:=g) (by rw[List.length_drop];omega) (by rw[List.length_drop];omega)]
theorem zKl {b:List UInt8} (h:g9 b=none):zJc b=[]:=by simp[zJc,zLX,h]
theorem zL4 {b r:List UInt8} (h:g9 b=some r):zJc b=r::zJc (b.drop (12+r.length)):=by
 have:=(zKq h).1
 unfold zJc
 rw[zLX,h]
 simp only
 rw[zMc (g:=(b.drop (12+r.length)).length+1) (by rw[List.length_drop];omega) (by omega)]
theorem zNK {r x:List UInt8} (h:r.length≤1048576):zJc (frame r++x)=r::zJc x:=by
 rw[zL4 (zNs x h),←zJq,List.drop_append_of_le_length (by omega),List.drop_of_length_le (by omega)];rfl
theorem zKr:∀ {l:List (List UInt8)} {x:List UInt8},(∀r∈l,r.length≤1048576)→zJc (q5 l++x)=l++zJc x
 | [],x,_=>by simp[q5]
 | r::l,x,h=>by
  have ih:=zKr (l:=l) (x:=x) fun y hy=>h y (List.mem_cons_of_mem _ hy)
  unfold q5 at ih ⊢
  rw[List.flatMap_cons,List.append_assoc,zNK (h r (by simp)),ih];rfl
theorem zKT:zJc []=[]:=zKl (by simp[g9])
theorem zMT {l:List (List UInt8)} (h:∀r∈l,r.length≤1048576):zJc (q5 l)=l:=by
 have:=zKr (x:=[]) h
 rw[zKT]at this
 simpa using this
theorem zM0:∀(n:Nat) {b:List UInt8},b.length≤n→(q5 (zJc b)).length≤b.length∧q5 (zJc b)=b.take (q5 (zJc b)).length∧∀r∈zJc b,r.length≤1048576
 | 0,b,h=>by
  have:b=[]:=List.length_eq_zero_iff.1 (by omega)
  subst this
  rw[zKT];simp[q5]
 | n+1,b,h=>by
  cases hf:g9 b with
  | none=>rw[zKl hf];simp[q5]
  | some r =>
   obtain⟨h1,h2⟩:=zKq hf
   obtain⟨i1,i2,i3⟩:=zM0 n (b:=b.drop (12+r.length)) (by rw[List.length_drop];omega)
   have hfr:b.take (12+r.length)=frame r:=by
    unfold g9 at hf
    split at hf
    ·cases hf
    split at hf
    ·cases hf
    split at hf
    ·rename_i h5 h6 h7
     have hr:=Option.some.inj hf
     rw[hr]at h7
     have hn:zL9 (b.take 4)=r.length:=by
      rw[←hr];simp only[List.length_take,List.length_drop];omega
     rw[hn]at hr
     rw[List.take_add,←h7,hr];rfl
    ·cases hf
   rw[zL4 hf]
   have e:q5 (r::zJc (b.drop (12+r.length)))=frame r++q5 (zJc (b.drop (12+r.length))):=rfl
   rw[e,List.length_append,zJq]
   rw[List.length_drop]at i1
   refine⟨by omega,?_,?_⟩
   ·rw[List.take_add,hfr,←i2]
   ·intro y hy
    rcases List.mem_cons.1 hy with rfl|hy
    ·exact h2
    ·exact i3 y hy
structure FV where
 data:List UInt8
 sure:Nat
structure DV where
 m:Option FV
 n:Option FV
 left:Int
def FOK (f:FV):Prop:=f.sure≤f.data.length
def DOK (d:DV):Prop:=(∀f,d.m=some f→FOK f)∧(∀f,d.n=some f→FOK f)∧-1≤d.left∧d.left≤9223372036854775807
def szF:Option FV→Nat
 | none=>0
 | some f=>f.data.length
def szD (d:DV):Nat:=szF d.m+szF d.n
def zJe:DV:=⟨none,none,-1⟩
def g5 (b:Bool) (d:DV):Option FV:=if b then d.n else d.m
def zJC (b:Bool) (o:Option FV) (d:DV):DV:=if b then { d with n:=o } else { d with m:=o }
def c7 (d:DV):DV:={ d with left:=if 0<d.left then d.left-1 else d.left }
def zKf (x:List UInt8):Option FV→FV
 | none=>⟨x,0⟩
 | some f=>⟨f.data++x,f.sure⟩
def kW (b:Bool) (x:List UInt8) (d:DV):DV × Int:=if d.left=0 then(d,18) else(zJC b (some (zKf x (g5 b d))) (c7 d),0)
def c8 (b:Bool) (d:DV):DV × Int:=match g5 b d with
 | none=>(d,10)
 | some f=>if d.left=0 then(d,18) else(zJC b (some ⟨f.data,f.data.length⟩) (c7 d),0)
def zb1 (d:DV):DV × Int:=match d.n with
 | none=>(d,10)
 | some f=>if d.left=0 then(d,18) else(⟨some f,none,(c7 d).left⟩,0)
def zJd (d:DV):DV × Int:=match d.n with
 | none=>(d,10)
 | some f=>if d.left=0 then(d,18) else(⟨d.m,none,(c7 d).left⟩,0)
def zJs (n:Int) (d:DV):DV:={ d with left:=if n < -1 then -1 else n }
def zK3 (p:Int) (u:Nat):Nat:=((p.tmod ((u:Int)+1)+u+1).tmod ((u:Int)+1)).toNat
def zJy (ps:List Int):Option FV→Option FV × List Int
 | none=>(none,ps)
 | some f=>if f.data.length≤f.sure then(some ⟨f.data,f.data.length⟩,ps)
  else(some ⟨f.data.take (f.sure+zK3 (ps.headD 0) (f.data.length-f.sure)),f.sure+zK3 (ps.headD 0) (f.data.length-f.sure)⟩,ps.drop 1)
def zJh (ps:List Int) (d:DV):DV:=⟨(zJy ps d.m).1,(zJy (zJy ps d.m).2 d.n).1,-1⟩
theorem zNR (p:Int) (u:Nat):zK3 p u≤u:=by
 unfold zK3
 have h1:=Int.tmod_lt_of_pos (p.tmod ((u:Int)+1)+u+1) (b:=(u:Int)+1) (by omega)
 omega
structure JV where
 d:DV
 br:Bool
def thn (r:DV × Int) (f:DV→DV × Int):DV × Int:=if r.2=0 then f r.1 else r
def W2 (d:DV):DV × Int:=if d.n.isSome then zJd d else(d,0)
def zJn (x:List UInt8) (d:DV):DV × Int:=thn (thn (kW true x d) (c8 true)) zb1
def zK6:Option FV→List UInt8
 | none=>[]
 | some f=>f.data
def zKc (d:DV):DV × Int × List (List UInt8) :=
 let b:=zK6 d.m
 let l:=zJc b
 let n:=(q5 l).length
 if n<b.length then((zJn (b.take n) d).1,(zJn (b.take n) d).2,if (zJn (b.take n) d).2=0 then l else []) else(d,0,l)
def openJ (d:DV):DV × Int × List (List UInt8):=if (W2 d).2=0 then zKc (W2 d).1 else((W2 d).1,(W2 d).2,[])
def addJ (r:List UInt8) (j:JV):JV × Int :=
 if j.br then(j,19) else if 1048576<r.length then(j,6) else
  let x:=thn (kW false (frame r) j.d) (c8 false)
  (⟨x.1,decide (x.2≠0)⟩,x.2)
def swapJ (l:List (List UInt8)) (j:JV):JV × Int :=
 if j.br then(j,19) else if l.any (fun r=>decide (1048576<r.length)) then(j,6) else
  let x:=thn (W2 j.d) (zJn (q5 l))
  (⟨x.1,decide (x.2≠0)⟩,x.2)
theorem zNg {d:DV} (h:DOK d):-1≤(c7 d).left∧(c7 d).left≤9223372036854775807:=by
 obtain⟨_,_,h3,h4⟩:=h
 unfold c7;simp only;split<;>omega
theorem zSn (d:DV):(c7 d).m=d.m∧(c7 d).n=d.n:=⟨rfl,rfl⟩
theorem zP5 {b:Bool} {f:FV} {d:DV} (h:DOK d) (hf:FOK f):DOK (zJC b (some f) (c7 d)):=by
 obtain⟨t1,t2⟩:=zNg h
 obtain⟨h1,h2,_,_⟩:=h
 cases b
 ·exact⟨fun g hg=>by cases hg;exact hf,fun g hg=>h2 g hg,t1,t2⟩
 ·exact⟨fun g hg=>h1 g hg,fun g hg=>by cases hg;exact hf,t1,t2⟩
theorem zOV {b:Bool} {d:DV} (h:DOK d) {f:FV} (hf:g5 b d=some f):FOK f:=by
 cases b
 ·exact h.1 f hf
 ·exact h.2.1 f hf
theorem zKk {b:Bool} {x:List UInt8} {d:DV} (h:DOK d):DOK (kW b x d).1:=by
 unfold kW
 split
 ·exact h
 refine zP5 h ?_
 cases hg:g5 b d with
 | none=>simp[zKf,FOK]
 | some f=>have:=zOV h hg;simp only[zKf,FOK,List.length_append]at this ⊢;omega
theorem zNM {b:Bool} {d:DV} (h:DOK d):DOK (c8 b d).1:=by
 unfold c8
 cases hg:g5 b d with
 | none=>exact h
 | some f =>
  simp only
  split
  ·exact h
  exact zP5 h (by simp[FOK])
theorem zOA {d:DV} (h:DOK d):DOK (zb1 d).1:=by
 unfold zb1
 cases hg:d.n with
 | none=>exact h
 | some f =>
  simp only
  split
  ·exact h
  obtain⟨t1,t2⟩:=zNg h
  exact⟨fun g hg'=>by cases hg';exact h.2.1 f hg,fun g hg'=>(by cases hg'),t1,t2⟩
theorem zM4 {d:DV} (h:DOK d):DOK (zJd d).1:=by
 unfold zJd
 cases hg:d.n with
 | none=>exact h
 | some f =>
  simp only
  split
  ·exact h
  obtain⟨t1,t2⟩:=zNg h
  exact⟨fun g hg'=>h.1 g hg',fun g hg'=>(by cases hg'),t1,t2⟩
theorem zOh {n:Int} {d:DV} (h:DOK d) (hn:n≤9223372036854775807):DOK (zJs n d) :=
 ⟨h.1,h.2.1,by unfold zJs;simp only;split<;>omega,by unfold zJs;simp only;split<;>omega⟩
theorem zKO {ps:List Int} {o:Option FV} (h:∀f,o=some f→FOK f):∀f,(zJy ps o).1=some f→FOK f∧f.sure=f.data.length∧szF (some f)≤szF o:=by
 intro f hf
 cases o with
 | none=>cases hf
 | some g =>
  have hg:=h g rfl
  unfold FOK at hg
  simp only[zJy]at hf
  by_cases hl:g.data.length≤g.sure
  ·rw[if_pos hl]at hf;cases hf;exact⟨Nat.le_refl _,rfl,Nat.le_refl _⟩
  ·rw[if_neg hl]at hf
   have:=zNR (ps.headD 0) (g.data.length-g.sure)
   cases hf
   simp only[FOK,szF,List.length_take]
   omega
theorem zPO {ps:List Int} {d:DV} (h:DOK d):DOK (zJh ps d):=⟨fun f hf=>(zKO h.1 f hf).1,fun f hf=>(zKO h.2.1 f hf).1,by simp[zJh],by simp[zJh]⟩
theorem zPU {d:DV} (h:DOK d):DOK (W2 d).1:=by unfold W2;split;exact zM4 h;exact h
theorem zRq:DOK zJe:=⟨fun f h=>(by cases h),fun f h=>(by cases h),by decide,by decide⟩
end Go.Proofs.YtcioeonlclpacaaGreatDoor
end
section
set_option maxRecDepth 100000
namespace Go.Proofs.YtcioeonlclpacaaGreatDoor
open Go Go.Ab
open Classical
variable [Sel]
@[simp] theorem zlx:qZ Tryz.prog 228=true:=by kernel_rfl
@[simp] theorem zrb:z8 Tryz.prog (.func 228)=false:=q9 zlx
@[simp] theorem zzO:qZ Tryz.prog 227=true:=by kernel_rfl
@[simp] theorem zB9:z8 Tryz.prog (.func 227)=false:=q9 zzO
@[simp] theorem zRZ:qZ Tryz.prog 258=true:=by kernel_rfl
@[simp] theorem zT4:z8 Tryz.prog (.func 258)=false:=q9 zRZ
@[simp] theorem zRN:qZ Tryz.prog 248=true:=by kernel_rfl
@[simp] theorem zTc:z8 Tryz.prog (.func 248)=false:=q9 zRN
@[simp] theorem zAa:qZ Tryz.prog 226=true:=by kernel_rfl
@[simp] theorem zBd:z8 Tryz.prog (.func 226)=false:=q9 zAa
@[simp] theorem zlA:qZ Tryz.prog 194=true:=by kernel_rfl
@[simp] theorem zpY:z8 Tryz.prog (.func 194)=false:=q9 zlA
def jD (n:Nat):Bool:=decide (97≤n∧n≤122∨65≤n∧n≤90∨48≤n∧n≤57∨n=95∨n=46∨n=45∨n=43)
theorem WT (n:Nat) (h:n<128):(0≤Lib.indexByte [95,46,45,43] (UInt8.ofNat n))=(n=95∨n=46∨n=45∨n=43):=by
 revert n
 decide +kernel
theorem pW {n:Nat} (h:n<256):IntKind.u8.wrap (n:Int)=((UInt8.ofNat n).toNat:Int):=by
 simp[IntKind.wrap,IntKind.signed,IntKind.bits]
set_option maxHeartbeats 4000000 in
theorem zmS (n:Nat) (hn:n≤1114111):PC Tryz.prog 228 [.av (.int .i32) (.i .i32 n)] (.av .bool (.b (jD n))):=by
 refine zow Tryz.func228 cf0 fun imm0 w0=>?_
 by_cases h1:97≤n∧n≤122
 ·have h1':(97:Int)≤n:=by omega
  have h2':(n:Int)≤122:=by omega
  simp (disch:=omega) [zz,h1',h2',Tryz.f228,jD,h1]
 by_cases h2:65≤n∧n≤90
 ·have h1':(65:Int)≤n:=by omega
  have h2':(n:Int)≤90:=by omega
  have h3':¬(97:Int)≤n:=by omega
  simp (disch:=omega) [zz,h1',h2',h3',Tryz.f228,jD,h2]
 by_cases h3:48≤n∧n≤57
 ·have h1':(48:Int)≤n:=by omega
  have h2':(n:Int)≤57:=by omega
  have h3':¬(97:Int)≤n:=by omega
  have h4':¬(65:Int)≤n:=by omega
  simp (disch:=omega) [zz,h1',h2',h3',h4',Tryz.f228,jD,h3]
 have hsg:jD n=decide (n=95∨n=46∨n=45∨n=43):=by unfold jD;congr 1;apply propext;omega
 rcases(by omega:122<n∨(90<n∧n<97)∨(57<n∧n<65)∨n<48)with hc|hc|hc|hc
 ·by_cases h4:n<128
  ·have a0:(97:Int)≤n:=by omega
   have b0:¬(n:Int)≤122:=by omega
   have a1:(65:Int)≤n:=by omega
   have b1:¬(n:Int)≤90:=by omega
   have a2:(48:Int)≤n:=by omega
   have b2:¬(n:Int)≤57:=by omega
   have h4':(n:Int)<128:=by omega
   have hu:=pW (show n<256 by omega)
   have hm:=WT n h4
   simp (disch:=omega) [zz,a0,b0,a1,b1,a2,b2,h4',hu]
   refine qL (KC [95,46,45,43] (UInt8.ofNat n)) rfl rfl (by simp) (by simp[qS,coC,TV.er,AV.er]) ?_
   simp (disch:=omega) [zz,Tryz.f228,hsg,hm]
  ·have a0:(97:Int)≤n:=by omega
   have b0:¬(n:Int)≤122:=by omega
   have a1:(65:Int)≤n:=by omega
   have b1:¬(n:Int)≤90:=by omega
   have a2:(48:Int)≤n:=by omega
   have b2:¬(n:Int)≤57:=by omega
   have h4':¬(n:Int)<128:=by omega
   have h5:¬(n=95∨n=46∨n=45∨n=43):=by omega
   simp (disch:=omega) [zz,a0,b0,a1,b1,a2,b2,h4',hsg,h5,Tryz.f228]
 ·by_cases h4:n<128
  ·have a0:¬(97:Int)≤n:=by omega
   have a1:(65:Int)≤n:=by omega
   have b1:¬(n:Int)≤90:=by omega
   have a2:(48:Int)≤n:=by omega
   have b2:¬(n:Int)≤57:=by omega
   have h4':(n:Int)<128:=by omega
   have hu:=pW (show n<256 by omega)
   have hm:=WT n h4
   simp (disch:=omega) [zz,a0,a1,b1,a2,b2,h4',hu]
   refine qL (KC [95,46,45,43] (UInt8.ofNat n)) rfl rfl (by simp) (by simp[qS,coC,TV.er,AV.er]) ?_
   simp (disch:=omega) [zz,Tryz.f228,hsg,hm]
  ·have a0:¬(97:Int)≤n:=by omega
   have a1:(65:Int)≤n:=by omega
   have b1:¬(n:Int)≤90:=by omega
   have a2:(48:Int)≤n:=by omega
   have b2:¬(n:Int)≤57:=by omega
   have h4':¬(n:Int)<128:=by omega
   have h5:¬(n=95∨n=46∨n=45∨n=43):=by omega
   simp (disch:=omega) [zz,a0,a1,b1,a2,b2,h4',hsg,h5,Tryz.f228]
 ·by_cases h4:n<128
  ·have a0:¬(97:Int)≤n:=by omega
   have a1:¬(65:Int)≤n:=by omega
   have a2:(48:Int)≤n:=by omega
   have b2:¬(n:Int)≤57:=by omega
   have h4':(n:Int)<128:=by omega
   have hu:=pW (show n<256 by omega)
   have hm:=WT n h4
   simp (disch:=omega) [zz,a0,a1,a2,b2,h4',hu]
   refine qL (KC [95,46,45,43] (UInt8.ofNat n)) rfl rfl (by simp) (by simp[qS,coC,TV.er,AV.er]) ?_
   simp (disch:=omega) [zz,Tryz.f228,hsg,hm]
  ·have a0:¬(97:Int)≤n:=by omega
   have a1:¬(65:Int)≤n:=by omega
   have a2:(48:Int)≤n:=by omega
   have b2:¬(n:Int)≤57:=by omega
   have h4':¬(n:Int)<128:=by omega
   have h5:¬(n=95∨n=46∨n=45∨n=43):=by omega
   simp (disch:=omega) [zz,a0,a1,a2,b2,h4',hsg,h5,Tryz.f228]
 ·by_cases h4:n<128
  ·have a0:¬(97:Int)≤n:=by omega
   have a1:¬(65:Int)≤n:=by omega
   have a2:¬(48:Int)≤n:=by omega
   have h4':(n:Int)<128:=by omega
   have hu:=pW (show n<256 by omega)
   have hm:=WT n h4
   simp (disch:=omega) [zz,a0,a1,a2,h4',hu]
   refine qL (KC [95,46,45,43] (UInt8.ofNat n)) rfl rfl (by simp) (by simp[qS,coC,TV.er,AV.er]) ?_
   simp (disch:=omega) [zz,Tryz.f228,hsg,hm]
  ·have a0:¬(97:Int)≤n:=by omega
   have a1:¬(65:Int)≤n:=by omega
   have a2:¬(48:Int)≤n:=by omega
   have h4':¬(n:Int)<128:=by omega
   have h5:¬(n=95∨n=46∨n=45∨n=43):=by omega
   simp (disch:=omega) [zz,a0,a1,a2,h4',hsg,h5,Tryz.f228]
end Go.Proofs.YtcioeonlclpacaaGreatDoor
end
