/- strings.Builder. No condition beyond each theorem's own. -/
import Derived.Test.YtcgpcfcbienapaaGreatDoorL0
import Derived.Test.YtcgpcfcbienapaaGreatDoorQ0ToK5
import Derived.Test.YtcgpcfcbienapaaGreatDoorRW3ToK6
import Derived.Test.YtcgpcfcbienapaaGreatDoorP8ToK3
import Derived.Test.YtcgpcfcbienapaaGreatDoorP0ToP7
set_option linter.unusedSimpArgs false
set_option linter.unusedVariables false
set_option linter.unusedSectionVars false
section
set_option maxRecDepth 100000
namespace Go.Proofs.YtcgpcfcbienapaaGreatDoor
open Go Go.Ab
open Classical
variable [Sel]
@[simp] theorem zmj:qZ Tryz.prog 125=true:=by kernel_rfl
@[simp] theorem zqA:z8 Tryz.prog (.func 125)=false:=q9 zmj
@[simp] theorem znM:qZ Tryz.prog 85=true:=by kernel_rfl
@[simp] theorem zrm:z8 Tryz.prog (.func 85)=false:=q9 znM
@[simp] theorem zot:qZ Tryz.prog 87=true:=by kernel_rfl
@[simp] theorem zrz:z8 Tryz.prog (.func 87)=false:=q9 zot
@[simp] theorem zo7:qZ Tryz.prog 88=true:=by kernel_rfl
@[simp] theorem zs5:z8 Tryz.prog (.func 88)=false:=q9 zo7
@[simp] theorem zsK:qD Tryz.prog 237=.other:=by kernel_rfl
@[simp] theorem zrG:z8 Tryz.prog (.func 167)=true:=by kernel_rfl
theorem znX:zpe Tryz.prog (.func 167):=⟨_,Tryz.func167,by kernel_rfl,by kernel_rfl,by kernel_rfl,by kernel_rfl⟩
abbrev QR:TyD:=.struct [157,126]
def bys (l:List UInt8):List AV:=l.map fun b=>.i .u8 b.toNat
@[simp] theorem zo0 (l:List UInt8):(bys l).length=l.length:=by simp[bys]
@[simp] theorem zpc (l:List UInt8):AV.erks (bys l)=bys l:=by simp[bys,AV.erks_eq,AV.erk,Function.comp_def]
@[simp] theorem zrc (l:List UInt8):AV.ers (bys l)=bys l:=by simp[bys,AV.ers_eq,AV.er,Function.comp_def]
theorem zbd (a b:List UInt8):bys a++bys b=bys (a++b):=by simp[bys]
theorem zdK (l:List UInt8) (n:Nat):(bys l).take n=bys (l.take n):=by simp[bys,List.map_take]
theorem zjK (l:List UInt8) (n:Nat):(bys l).drop n=bys (l.drop n):=by simp[bys,List.map_drop]
theorem zfD (n:Nat):List.replicate n (AV.i .u8 0)=bys (List.replicate n 0):=by simp[bys]
theorem WH:∀l,bytesOf (bys l)=some l
 | []=>rfl
 | b::l=>by
  have:=WH l
  simp only[bys,List.map_cons,bytesOf]at this ⊢
  rw[this]
  simp
theorem zj9 (b:Nat) (buf:AV) (hb:buf.erk=buf):q7 Tryz.prog 125 [.av .ptr (.ptr b QR [])] [(b,.var QR (.agg [.nilptr,buf]))] fun r H'=>r=.tup []∧H'=[(b,.var QR (.agg [.ptr b QR [],buf]))]:=by
 refine zov Tryz.func125 cf0 fun imm0 w0=>?_
 simp (disch:=omega) [zz]
 refine⟨by kernel_rfl,znX,by kernel_rfl,?_⟩
 simp (disch:=omega) [zz,Tryz.f125,hb]
theorem zm6 (b:Nat) (buf:AV) (hb:buf.erk=buf):q7 Tryz.prog 125 [.av .ptr (.ptr b QR [])] [(b,.var QR (.agg [.ptr b QR [],buf]))] fun r H'=>r=.tup []∧H'=[(b,.var QR (.agg [.ptr b QR [],buf]))]:=by
 refine zov Tryz.func125 cf0 fun imm0 w0=>?_
 simp (disch:=omega) [zz]
 refine⟨by kernel_rfl,?_⟩
 simp (disch:=omega) [zz,Tryz.f125,hb]
inductive BS (b:Nat) (bs:List UInt8):q8→Prop
 | fresh (p:AV) (hp:p=.nilptr∨p=.ptr b QR []) (h:bs=[]):BS b bs [(b,.var QR (.agg [p,.nsl]))]
 | row (p:AV) (hp:p=.nilptr∨p=.ptr b QR []) (r cap:Nat) (rs:List UInt8) (hc:bs.length+rs.length=cap) (h0:0<cap):BS b bs [(b,.var QR (.agg [p,.msl r 5 0 bs.length cap])),(r,.var (.arr cap 5) (.agg (bys (bs++rs))))]
theorem zjH (b:Nat) (p buf:AV) (hp:p=.nilptr∨p=.ptr b QR []) (hb:buf.erk=buf):q7 Tryz.prog 125 [.av .ptr (.ptr b QR [])] [(b,.var QR (.agg [p,buf]))] fun r H'=>r=.tup []∧H'=[(b,.var QR (.agg [.ptr b QR [],buf]))]:=by
 rcases hp with rfl|rfl
 ·exact zj9 b buf hb
 ·exact zm6 b buf hb
theorem BS.er {b:Nat} {bs:List UInt8} {H:q8} (h:BS b bs H):H.er=H:=by
 cases h with
 | fresh p hp h=>rcases hp with rfl|rfl<;>simp[q8.er,HObj.er,AV.erk,AV.erks]
 | row p hp r cap rs hc h0=>rcases hp with rfl|rfl<;>simp[q8.er,HObj.er,AV.erk,AV.erks]
def BSs (b:Nat) (bs:List UInt8) (H:q8):Prop:=∃H2,HSub H2 H∧BS b bs H2
theorem q7.bss {P:Program} {f:FuncId} {args:List TV} {H:q8} {r0:TV} {b:Nat} {bs:List UInt8} (h:q7 P f args H fun r H'=>r=r0∧BSs b bs H'):q7 P f args H fun r H'=>r=r0∧BS b bs H' :=
 h.sub fun r H' ⟨h1,H2,h2,h3⟩ _=>⟨H2,h2,h1,h3⟩
set_option maxHeartbeats 4000000 in
theorem zp2 (b:Nat) (bs x:List UInt8) (H:q8) (hB:BS b bs H) (hl:bs.length+x.length≤100000000000) :
  q7 Tryz.prog 85 [.av .ptr (.ptr b QR []),.av .str (.s x)] H fun r H'=>r=.tup [(.int .i64,.i .i64 x.length),(.iface,.nilifc)]∧BS b (bs++x) H':=by
 refine q7.bss <| q7.nodup fun hnd=>?_
 have ebx:(x.map fun b=>AV.i .u8 b.toNat)=bys x:=rfl
 cases hB with
 | fresh p hp h =>
  subst h
  simp at hl
  refine zov Tryz.func85 cf0 fun imm0 w0=>?_
  simp (disch:=omega) [zz]
  refine jP (R:=fun r H'=>r=.tup []∧H'=[(b,.var QR (.agg [.ptr b QR [],.nsl]))]) rfl (by simp[qQ]) (by simp) ?_ ?_
  ·have hpe:p.erk=p:=by rcases hp with rfl|rfl<;>rfl
   simpa[TV.er,AV.er,q8.er_cons,q8.er_nil,HObj.er,AV.erk,AV.erks,hpe]using zjH b p .nsl hp rfl
  rintro r H' ⟨rfl,rfl⟩
  simp (disch:=omega) [zz]
  refine⟨by omega,fun hx=>?_,fun hx r cap hr hcap=>?_⟩
  ·subst hx
   simp (disch:=omega) [zz,Tryz.f85]
   exact⟨_,HSub.refl _,.fresh _ (.inr rfl) rfl⟩
  ·have hr':¬b=r:=fun e=>hr e.symm
   simp (disch:=omega) [zz,Tryz.f85,hr,hr',ebx,zfD,zbd]
   refine⟨_,HSub.of_perm (List.Perm.swap _ _ _),?_⟩
   have:=BS.row (b:=b) (bs:=x) (.ptr b QR []) (.inr rfl) r cap (List.replicate (cap-x.length) 0) (by simp;omega) (by omega)
   exact this
 | row p hp r cap rs hc h0 =>
  simp[q8.keys]at hnd
  have hnd':¬r=b:=fun e=>hnd e.symm
  have etk:(bys (bs++rs)).take bs.length=bys bs:=by rw[zdK,List.take_left]
  have edr:(bys (bs++rs)).drop (bs.length+x.length)=bys (rs.drop x.length):=by
   rw[zjK,List.drop_append,List.drop_eq_nil_of_le (by omega),List.nil_append,Nat.add_sub_cancel_left]
  refine zov Tryz.func85 cf0 fun imm0 w0=>?_
  simp (disch:=omega) [zz]
  refine qE (R:=fun r' H'=>r'=.tup []∧H'=[(b,.var QR (.agg [.ptr b QR [],.msl r 5 0 bs.length cap]))]) [(b,.var QR (.agg [p,.msl r 5 0 bs.length cap]))] [(r,.var (.arr cap 5) (.agg (bys (bs++rs))))] (List.Perm.refl _) rfl (by simp[qQ]) (by simp) ?_ ?_
  ·have hpe:p.erk=p:=by rcases hp with rfl|rfl<;>rfl
   simpa[TV.er,AV.er,q8.er_cons,q8.er_nil,HObj.er,AV.erk,AV.erks,hpe]using zjH b p (.msl r 5 0 bs.length cap) hp rfl
  rintro r' H' ⟨rfl,rfl⟩ _
  refine⟨_,HSub.refl _,?_⟩
  simp (disch:=omega) [zz,hnd,hnd',etk,edr,ebx,zbd]
  refine⟨by omega,by omega,fun hx=>?_,fun hx r2 cap2 hr2 hr2' hcap2=>?_⟩
  ·simp (disch:=omega) [zz,Tryz.f85,hnd,hnd']
   refine⟨_,HSub.refl _,?_⟩
   have:=BS.row (b:=b) (bs:=bs++x) (.ptr b QR []) (.inr rfl) r cap (rs.drop x.length) (by simp;omega) h0
   simpa using this
  ·have hr2b:¬b=r2:=fun e=>hr2 e.symm
   simp (disch:=omega) [zz,Tryz.f85,hr2,hr2b,hr2',hnd,hnd',zfD,zbd]
   refine⟨_,⟨_,List.Perm.swap _ _ _,((List.Sublist.refl _).cons _).cons_cons _ |>.cons_cons _⟩,?_⟩
   have:=BS.row (b:=b) (bs:=bs++x) (.ptr b QR []) (.inr rfl) r2 cap2 (List.replicate (cap2-(bs.length+x.length)) 0) (by simp;omega) (by omega)
   simpa using this
set_option maxHeartbeats 4000000 in
theorem zAD (b:Nat) (bs:List UInt8) (x:UInt8) (H:q8) (hB:BS b bs H) (hl:bs.length≤100000000000) :
  q7 Tryz.prog 87 [.av .ptr (.ptr b QR []),.av (.int .u8) (.i .u8 x.toNat)] H fun r H'=>r=.av .iface .nilifc∧BS b (bs++[x]) H':=by
 refine q7.bss <| q7.nodup fun hnd=>?_
 have ebx:[AV.i .u8 x.toNat]=bys [x]:=rfl
 have ebc:∀l,AV.i .u8 x.toNat::bys l=bys (x::l):=fun l=>rfl
 cases hB with
 | fresh p hp h =>
  subst h
  simp at hl
  refine zov Tryz.func87 cf0 fun imm0 w0=>?_
  simp (disch:=omega) [zz]
  refine jP (R:=fun r H'=>r=.tup []∧H'=[(b,.var QR (.agg [.ptr b QR [],.nsl]))]) rfl (by simp[qQ]) (by simp) ?_ ?_
  ·have hpe:p.erk=p:=by rcases hp with rfl|rfl<;>rfl
   simpa[TV.er,AV.er,q8.er_cons,q8.er_nil,HObj.er,AV.erk,AV.erks,hpe]using zjH b p .nsl hp rfl
  rintro r H' ⟨rfl,rfl⟩
  simp (disch:=omega) [zz]
  intro r cap hr hcap
  ·have hr':¬b=r:=fun e=>hr e.symm
   simp (disch:=omega) [zz,Tryz.f87,hr,hr',ebx,ebc,zfD,zbd]
   refine⟨_,HSub.of_perm (List.Perm.swap _ _ _),?_⟩
   have:=BS.row (b:=b) (bs:=[x]) (.ptr b QR []) (.inr rfl) r cap (List.replicate (cap-1) 0) (by simp;omega) (by omega)
   exact this
 | row p hp r cap rs hc h0 =>
  simp[q8.keys]at hnd
  have hnd':¬r=b:=fun e=>hnd e.symm
  have etk:(bys (bs++rs)).take bs.length=bys bs:=by rw[zdK,List.take_left]
  have edr:(bys (bs++rs)).drop (bs.length+1)=bys (rs.drop 1):=by
   rw[zjK,List.drop_append,List.drop_eq_nil_of_le (by omega),List.nil_append,Nat.add_sub_cancel_left]
  refine zov Tryz.func87 cf0 fun imm0 w0=>?_
  simp (disch:=omega) [zz]
  refine qE (R:=fun r' H'=>r'=.tup []∧H'=[(b,.var QR (.agg [.ptr b QR [],.msl r 5 0 bs.length cap]))]) [(b,.var QR (.agg [p,.msl r 5 0 bs.length cap]))] [(r,.var (.arr cap 5) (.agg (bys (bs++rs))))] (List.Perm.refl _) rfl (by simp[qQ]) (by simp) ?_ ?_
  ·have hpe:p.erk=p:=by rcases hp with rfl|rfl<;>rfl
   simpa[TV.er,AV.er,q8.er_cons,q8.er_nil,HObj.er,AV.erk,AV.erks,hpe]using zjH b p (.msl r 5 0 bs.length cap) hp rfl
  rintro r' H' ⟨rfl,rfl⟩ _
  refine⟨_,HSub.refl _,?_⟩
  simp (disch:=omega) [zz,hnd,hnd',etk,edr,ebx,ebc,zbd]
  refine⟨by omega,by omega,fun hx=>?_,fun hx r2 cap2 hr2 hr2' hcap2=>?_⟩
  ·simp (disch:=omega) [zz,Tryz.f87,hnd,hnd']
   refine⟨_,HSub.refl _,?_⟩
   have:=BS.row (b:=b) (bs:=bs++[x]) (.ptr b QR []) (.inr rfl) r cap (rs.drop 1) (by simp;omega) h0
   simpa using this
  ·have hr2b:¬b=r2:=fun e=>hr2 e.symm
   simp (disch:=omega) [zz,Tryz.f87,hr2,hr2b,hr2',hnd,hnd',zfD,zbd]
   refine⟨_,⟨_,List.Perm.swap _ _ _,((List.Sublist.refl _).cons _).cons_cons _ |>.cons_cons _⟩,?_⟩
   have:=BS.row (b:=b) (bs:=bs++[x]) (.ptr b QR []) (.inr rfl) r2 cap2 (List.replicate (cap2-(bs.length+1)) 0) (by simp;omega) (by omega)
   simpa using this
set_option maxHeartbeats 4000000 in
theorem zav (b:Nat) (bs:List UInt8) (H:q8) (hB:BS b bs H) (hl:bs.length≤100000000000) :
  q7 Tryz.prog 88 [.av .ptr (.ptr b QR [])] H fun r H'=>r=.av .str (.s bs):=by
 refine q7.nodup fun hnd=>?_
 cases hB with
 | fresh p hp h =>
  subst h
  refine zov Tryz.func88 cf0 fun imm0 w0=>?_
  simp (disch:=omega) [zz,Tryz.f88]
  (show UZ _ _=true;kernel_rfl)
 | row p hp r cap rs hc h0 =>
  simp[q8.keys]at hnd
  have hnd':¬r=b:=fun e=>hnd e.symm
  have hc0:¬cap=0:=by omega
  have etk:(bys (bs++rs)).take bs.length=bys bs:=by rw[zdK,List.take_left]
  have hbo:=WH bs
  refine zov Tryz.func88 cf0 fun imm0 w0=>?_
  simp (disch:=omega) [zz,hnd,hnd',etk,hc0,hbo]
  refine⟨(show UZ _ _=true by kernel_rfl),by kernel_rfl,by omega,by omega,?_⟩
  simp (disch:=omega) [zz,Tryz.f88]
end Go.Proofs.YtcgpcfcbienapaaGreatDoor
end
section
set_option maxRecDepth 100000
namespace Go.Proofs.YtcgpcfcbienapaaGreatDoor
open Go Go.Ab
open Classical
variable [Sel] [SelPow]
@[simp] theorem zG0:qZ Tryz.prog 50=true:=by kernel_rfl
@[simp] theorem zGD:z8 Tryz.prog (.func 50)=false:=q9 zG0
@[simp] theorem zys:qZ Tryz.prog 48=true:=by kernel_rfl
@[simp] theorem zyz:z8 Tryz.prog (.func 48)=false:=q9 zys
def WI:List (List UInt8)→List UInt8
 | []=>[]
 | s::l=>Lib.itoa s.length++58::s++WI l
theorem zyZ:∀a b,WI (a++b)=WI a++WI b
 | [],_=>rfl
 | s::a,b=>by
  have:=zyZ a b
  simp only[List.cons_append,WI,this]
  simp
theorem zyO (l:List (List UInt8)) (k:Nat):(WI (l.take k)).length≤(WI l).length:=by
 conv=>rhs;rw[←List.take_append_drop k l,zyZ]
 simp
def zz6 (l:List (List UInt8)):List AV:=l.map AV.s
theorem zzr (p:List (List UInt8)) (k:Nat) (h:k<p.length):(zz6 p)[k]?=some (.s p[k]):=by simp[zz6,List.getElem?_eq_getElem h]
@[simp] theorem zAo (l:List (List UInt8)):(zz6 l).length=l.length:=by simp[zz6]
abbrev zAr:Cfg:=⟨fun n=>n==3,fun n=>n==3⟩
set_option maxHeartbeats 8000000 in
theorem zzx (l:List (List UInt8)) (hn:l.length≤9223372036854775807) (hl:(WI l).length≤10000000000) :
  PC Tryz.prog 50 [.av (.slice 9) (.sl .no (zz6 l))] (.av .str (.s (WI l))):=by
 unfold PC
 refine q7.sub (R:=fun r H'=>r=.av .str (.s (WI l))) ?_ (fun r H' hr _=>⟨[],HSub.of_sub (List.nil_sublist _),hr,rfl⟩)
 refine zov Tryz.func50 zAr fun imm0 w0=>?_
 (simp (maxSteps:=2000000) (disch:=first|omega|assumption) [zz])
 intro b
 refine AT.loop' (α:=Nat × q8) (fun x=>St.of [(3,.av .ptr (.ptr b QR [])),(6,.av (.slice 9) (.sl .no (zz6 l))),(7,.av (.int .i64) (.i .i64 l.length)),(8,.av (.int .i64) (.i .i64 x.1))] [] (fun _=>0) x.2)
  (fun x=>x.1≤l.length∧BS b (WI (l.take x.1)) x.2) (fun x=>l.length-x.1) (0,[(b,.var QR (.agg [.nilptr,.nsl]))]) ?_ ?_ ?_
 ·apply Le.of<;>simp[qU,qG,qO,qH,qP,qK,qF,qI,qJ,qN,zX]<;>try omega
 ·exact⟨by omega,.fresh _ (.inl rfl) rfl⟩
 rintro⟨k,H⟩ ⟨hk,hB⟩ KL hN hE
 simp only at hk hB hN
 refine qM (cf:=zAr) laid mixed _ _ _ (by kernel_rfl) ?_
 have htl:=zyO l k
 by_cases hlt:k<l.length
 ·have hlt':(k:Int)<l.length:=by omega
  have hg:=zzr l k hlt
  have htl2:=zyO l (k+1)
  have hsn:WI (l.take (k+1))=WI (l.take k)++Lib.itoa l[k].length++[58]++l[k]:=by
   rw[List.take_succ_eq_append_getElem hlt,zyZ]
   simp[WI]
  rw[hsn]at htl2
  simp at htl2
  obtain⟨s,hs⟩:∃s,s=l[k]:=⟨_,rfl⟩
  rw[←hs]at hg hsn htl2
  (simp (maxSteps:=2000000) (disch:=first|omega|assumption) [zz,hlt',hg])
  refine zcv (zlV s.length (by omega) (by omega)) ?_
  (simp (maxSteps:=2000000) (disch:=first|omega|assumption) [zz])
  refine jP (R:=fun r H'=>r=.tup [(.int .i64,.i .i64 (Lib.itoa s.length).length),(.iface,.nilifc)]∧BS b (WI (l.take k)++Lib.itoa s.length) H') rfl (by simp[qQ]) (by simp) ?_ ?_
  ·have:=zp2 b (WI (l.take k)) (Lib.itoa s.length) H hB (by omega)
   simpa[TV.er,AV.er,hB.er]using this
  rintro r H1 ⟨rfl,hB1⟩
  (simp (maxSteps:=2000000) (disch:=first|omega|assumption) [zz])
  refine jP (R:=fun r H'=>r=.av .iface .nilifc∧BS b (WI (l.take k)++Lib.itoa s.length++[58]) H') rfl (by simp[qQ]) (by simp) ?_ ?_
  ·show q7 _ _ _ (q8.er H1) _
   rw[hB1.er]
   exact q7.args (zAD b (WI (l.take k)++Lib.itoa s.length) 58 H1 hB1 (by simp;omega)) (by simp[qS,TV.er,AV.er,coC])
  rintro r H2 ⟨rfl,hB2⟩
  (simp (maxSteps:=2000000) (disch:=first|omega|assumption) [zz])
  refine jP (R:=fun r H'=>r=.tup [(.int .i64,.i .i64 s.length),(.iface,.nilifc)]∧BS b (WI (l.take k)++Lib.itoa s.length++[58]++s) H') rfl (by simp[qQ]) (by simp) ?_ ?_
  ·have:=zp2 b (WI (l.take k)++Lib.itoa s.length++[58]) s H2 hB2 (by simp;omega)
   simpa[TV.er,AV.er,hB2.er]using this
  rintro r H3 ⟨rfl,hB3⟩
  (simp (maxSteps:=2000000) (disch:=first|omega|assumption) [zz])
  refine hN _ (k+1,H3) ?_ ⟨by omega,by rw[hsn];exact hB3⟩ (by simp;omega)
  apply Le.of<;>simp[qU,qG,qO,qH,qP,qK,qF,qI,qJ,qN,zX]<;>try omega
 ·have hlt':¬(k:Int)<l.length:=by omega
  (simp (maxSteps:=2000000) (disch:=first|omega|assumption) [zz,hlt'])
  refine hE _ _ (by simp) ?_
  rw[List.take_of_length_le (by omega)]at hB
  (simp (maxSteps:=2000000) (disch:=first|omega|assumption) [zz])
  refine jP (R:=fun r H'=>r=.av .str (.s (WI l))) rfl (by simp[qQ]) (by simp) ?_ ?_
  ·have:=zav b (WI l) H hB (by omega)
   simpa[TV.er,AV.er,hB.er]using this
  rintro r H1 rfl
  (simp (maxSteps:=2000000) (disch:=first|omega|assumption) [zz,Tryz.f50])
abbrev zGl:Cfg:=⟨fun n=>n==1,fun _=>false⟩
theorem zFv (d:Dig):KW d=.agg (bys d):=rfl
theorem zDz (d:Dig) (hd:d.length=32):PC Tryz.prog 48 [.av (.arr 32 5) (KW d)] (.av .str (.s d)):=by
 unfold PC
 refine q7.sub (R:=fun r H'=>r=.av .str (.s d)) ?_ (fun r H' hr _=>⟨[],HSub.of_sub (List.nil_sublist _),hr,rfl⟩)
 refine zov Tryz.func48 zGl fun imm0 w0=>?_
 have h1:(bys d).take 32=bys d:=List.take_of_length_le (by simp[hd])
 have h2:=WH d
 (simp (maxSteps:=2000000) (disch:=first|omega|assumption) [zz,zFv,h1,h2])
 intro b
 (simp (maxSteps:=2000000) (disch:=first|omega|assumption) [zz,Tryz.f48])
end Go.Proofs.YtcgpcfcbienapaaGreatDoor
end
section
set_option maxRecDepth 100000
namespace Go.Proofs.YtcgpcfcbienapaaGreatDoor
open Go Go.Ab
open Classical
variable [Sel] [SelPow] [SelMax]
theorem zih {s sub:List UInt8} {i:Nat} (h1:i≤s.length) (h2:Lib.occAt s sub i=true):∃m:Nat,Lib.index s sub=m∧Lib.occAt s sub m=true∧m≤s.length:=by
 induction i using Nat.strongRecOn with
 | ind i ih =>
  by_cases hf:∀j,j<i→Lib.occAt s sub j=false
  ·exact⟨i,Lib.index_first h1 h2 hf,h2,h1⟩
  ·obtain⟨j,hj⟩:=Classical.not_forall.1 hf
   obtain⟨hji,hj2⟩:=Classical.not_imp.1 hj
   exact ih j hji (by omega) (by simpa using hj2)
theorem WQ:∀ {l cur x:List UInt8},x∈kA cur l→∃a b,cur++l=a++x++b
 | [],cur,x,h=>by
  unfold kA at h
  split at h
  ·cases h
  ·simp only[List.mem_singleton]at h;subst h;exact⟨[],[],by simp⟩
 | c::r,cur,x,h=>by
  unfold kA at h
  split at h
  ·split at h
   ·rename_i hc
    obtain⟨a,b,e⟩:=WQ h
    subst hc
    refine⟨c::a,b,?_⟩
    simp only[List.nil_append]at e ⊢
    rw[e];simp
   ·rcases List.mem_cons.1 h with rfl|h
    ·exact⟨[],c::r,by simp⟩
    ·obtain⟨a,b,e⟩:=WQ h
     refine⟨cur++c::a,b,?_⟩
     simp only[List.nil_append]at e
     rw[e];simp
  ·obtain⟨a,b,e⟩:=WQ h
   exact⟨a,b,by rw[←e];simp⟩
theorem zeb {s:Txt} (h:zCX∈zR s):∃m:Nat,Lib.index s zCX=m∧m+4≤s.length:=by
 obtain⟨a,b,e⟩:=WQ h
 simp only[List.nil_append]at e
 have hocc:Lib.occAt s zCX a.length=true:=by
  unfold Lib.occAt
  rw[e]
  simp[List.isPrefixOf_iff_prefix]
 obtain⟨m,h1,h2,h3⟩:=zih (by rw[e];simp) hocc
 refine⟨m,h1,?_⟩
 rcases Lib.occAt_room h2 with h|h
 ·exact h
 ·cases h
noncomputable def kJ (c:CmdV):HObj:=.var QE (zK c)
def Y3 (x:Option (Option CmdV)) (r:TV) (H':q8):Prop:=match x with
 | none=>r=.tup [(.ptr,.nilptr),(.bool,.b false)]∧H'=[]
 | some none=>r=.tup [(.ptr,.nilptr),(.bool,.b true)]∧H'=[]
 | some (some c)=>∃b,r=.tup [(.ptr,.ptr b QE []),(.bool,.b true)]∧H'=[(b,kJ c)]
@[simp] theorem zAg:qZ Tryz.prog 174=true:=by kernel_rfl
@[simp] theorem zAT:z8 Tryz.prog (.func 174)=false:=q9 zAg
@[simp] theorem zmq:qZ Tryz.prog 132=true:=by kernel_rfl
@[simp] theorem zqP:z8 Tryz.prog (.func 132)=false:=q9 zmq
set_option maxHeartbeats 4000000 in
theorem CZ (l:Txt) (hl:l.length≤1000000):PC Tryz.prog 174 [.av .str (.s l)] (.av .str (.s l)):=by
 unfold PC
 refine q7.sub (R:=fun r H'=>r=.av .str (.s l)) ?_ (fun r H' hr _=>⟨[],HSub.of_sub (List.nil_sublist _),hr,rfl⟩)
 refine zov Tryz.func174 cf0 fun imm0 w0=>?_
 by_cases h0:l=[]
 ·subst h0
  simp (disch:=omega) [zz,Tryz.f174]
 ·have hp:0<l.length:=List.length_pos_iff.2 h0
  have h0':¬(l.length:Int)=0:=by omega
  have hbo:bytesOf (List.take l.length (l.map fun b=>AV.i .u8 (b.toNat:Int)))=some l:=by
   rw[List.take_of_length_le (by simp)]
   exact WH l
  simp (disch:=omega) [zz,h0,h0']
  refine⟨by omega,by omega,fun b=>⟨hp,by kernel_rfl,by omega,?_⟩⟩
  rw[hbo]
  simp (disch:=omega) [zz,Tryz.f174]
theorem p0 (l:Txt) (hl:l.length≤1000000):PC Tryz.prog 132 [.av .str (.s l)] (.av .str (.s l)):=by
 refine zow Tryz.func132 cf0 fun imm0 w0=>?_
 simp (disch:=omega) [zz]
 refine zcv (CZ l hl) ?_
 simp (disch:=omega) [zz,Tryz.f132]
theorem zgw (n:Txt) (h:(jU n).2=true):(jU n).1=2∨(jU n).1=3:=by
 unfold jU at h ⊢
 by_cases a:n=zZ∨n=w8∨n=j8
 ·rw[if_pos a];simp
 rw[if_neg a]at h ⊢
 by_cases b:n=jT
 ·rw[if_pos b];simp
 rw[if_neg b]at h ⊢
 by_cases c:n=yO∨n=wQ∨n=kG
 ·rw[if_pos c]at h;cases h
 rw[if_neg c]at h
 by_cases d:n=wP∨n=y4∨n=kV∨n=kY∨n=yR
 ·rw[if_pos d]at h;cases h
 ·rw[if_neg d]at h;cases h
abbrev zrj:Cfg:=⟨fun n=>n==38||n==66,fun n=>n==1000006||n==2000038⟩
set_option maxHeartbeats 8000000 in
theorem zhN (l:Txt) (hl:l.length≤1000000):q7 Tryz.prog 95 [.av .str (.s l)] [] (Y3 (Z0 l)):=by
 obtain⟨X,hX⟩:∃X,Z0 l=X:=⟨_,rfl⟩
 rw[hX]
 unfold Z0 at hX
 obtain⟨ws,hws⟩:∃ws,zR l=ws:=⟨_,rfl⟩
 have hw:=zdn l hl
 have heach:∀w∈ws,w≠[]∧w.length≤l.length:=fun w hw=>by
  rw[←hws]at hw
  have:=ZI hw
  exact⟨this.1,by simpa using this.2⟩
 have htx:zCX∈ws→∃m:Nat,Lib.index l zCX=m∧m+4≤l.length:=fun h=>zeb (hws▸h)
 have hwl:ws.length≤l.length+1:=by rw[←hws];exact uI
 rw[hws]at hX hw
 refine zov Tryz.func95 zrj fun imm0 w0=>?_
 simp (disch:=omega) [zz]
 refine zcv hw ?_
 match ws,hX,heach,htx,hwl with
 | [],hX,_,_,_ =>
  simp only at hX
  simp (disch:=omega) [zz,strs,Tryz.f95,←hX,Y3]
 | w::wr,hX,heach,htx,hwl =>
  simp only at hX
  obtain⟨hne,hwlen⟩:=heach w (by simp)
  obtain⟨c,w',rfl⟩:=List.exists_cons_of_ne_nil hne
  have hnz:¬(wr.length:Int)+1=0:=by omega
  by_cases hc:c=35
  ·subst hc
   rw[if_pos (show ((35:UInt8)::w').head?=some 35 from rfl)]at hX
   simp (disch:=omega) [zz,strs,hnz]
   simp (disch:=omega) [zz,Tryz.f95,←hX,Y3]
  rw[if_neg (by simpa using hc)]at hX
  have hc':¬(c.toNat:Int)=35:=by have:=YH (n:=35) (by omega) hc;simpa using this
  by_cases htt:c::w'=zCX
  ·rw[if_pos htt]at hX
   obtain⟨m,hm,hml⟩:=htx (by rw[←htt];simp)
   have hcc:c=116∧w'=[101,120,116]:=by simpa[zCX]using htt
   obtain⟨rfl,rfl⟩:=hcc
   simp (disch:=omega) [zz,strs,hnz,hc']
   refine qL (ziG l zCX (by omega)) rfl rfl (by simp) (by simp[qS,coC,TV.er,AV.er,zCX]) ?_
   rw[hm]
   have h4:(0:Int)≤(m:Int)+4:=by omega
   have h4':(m:Int)+4≤l.length:=by omega
   simp (disch:=omega) [zz,h4,h4']
   refine jW.of [0,1,2,3,4,5,6,7,8,9,10,11] [] (by kernel_rfl) ?_
   obtain⟨rs,hrs⟩:∃rs,rs=l.drop (m+4):=⟨_,rfl⟩
   have hrest:List.drop 1 (List.drop ((Lib.index l zCX).toNat+4) l)=rs.drop 1:=by rw[hm,hrs];rfl
   rw[hrest]at hX
   have hmn:min 1 rs.length≤rs.length:=Nat.min_le_right _ _
   by_cases hr1:rs.length<1
   ·have hr1':(rs.length:Int)<1:=by omega
    have hrn:rs=[]:=List.length_eq_zero_iff.1 (by omega)
    subst hrn
    simp (disch:=omega) [zz,h4,h4',←hrs]
    (repeat with_reducible refine om ?_)
    refine jC (p0 [] (by simp)) rfl rfl (by simp) (by simp[qS,TV.er,AV.er]) ?_
    simp (disch:=omega) [zz]
    (repeat with_reducible refine om ?_)
    intro bb
    simp (disch:=omega) [zz,Tryz.f95,←hX,Y3]
    simp[kJ,zK,strs,AV.ers_eq,Function.comp_def,AV.er]
   ·have hr1':¬(rs.length:Int)<1:=by omega
    have hr2:1≤rs.length:=by omega
    have hrl:rs.length≤l.length:=by rw[hrs,List.length_drop];omega
    simp (disch:=omega) [zz,h4,h4',←hrs,hr1',hr2]
    (repeat with_reducible refine om ?_)
    refine jC (p0 (rs.drop 1) (by rw[List.length_drop];omega)) rfl rfl (by simp) (by simp[qS,TV.er,AV.er]) ?_
    simp (disch:=omega) [zz]
    (repeat with_reducible refine om ?_)
    intro bb
    simp (disch:=omega) [zz,Tryz.f95,←hX,Y3]
    simp[kJ,zK,strs,AV.ers_eq,Function.comp_def,AV.er]
  rw[if_neg htt]at hX
  have htt':¬(c=116∧w'=[101,120,116]):=by simpa[zCX]using htt
  simp (disch:=omega) [zz,strs,hnz,hc',htt']
  refine zcv (zj8 (c::w')) ?_
  have htk:=zgw (c::w')
  obtain⟨tk,htke⟩:∃x,x=jU (c::w'):=⟨_,rfl⟩
  obtain⟨tn,tp⟩:=tk
  rw[←htke]at hX htk ⊢
  simp only at hX htk ⊢
  by_cases h1:tn=(wr.length:Int)+1
  rotate_left
  ·rw[if_pos (.inl h1)]at hX
   simp (disch:=omega) [zz,h1]
   simp (disch:=omega) [zz,Tryz.f95,←hX,Y3]
  subst h1
  have hz:¬(wr.length:Int)+1=0:=by omega
  cases tp with
  | false =>
   rw[if_neg (by simp;omega)]at hX
   simp (disch:=omega) [zz,hz]
   intro bb
   simp (disch:=omega) [zz,Tryz.f95,←hX,Y3]
   simp[kJ,zK,strs,AV.ers_eq,Function.comp_def,AV.er]
  | true =>
   have hwr:wr≠[]:=by
    rintro rfl
    have:=htk rfl
    simp at this
   obtain⟨p,wr',rfl⟩:=List.exists_cons_of_ne_nil hwr
   have hpl:=(heach p (by simp)).2
   have hz2:¬(wr'.length:Int)+1+1=0:=by omega
   have hz3:(1:Int)<(wr'.length:Int)+1+1:=by omega
   simp (disch:=omega) [zz,hz,hz2,hz3]
   refine zcv (DL p (by omega)) ?_
   cases hmv:yV p
   ·rw[if_pos (by simp[hmv])]at hX
    simp (disch:=omega) [zz,hmv]
    simp (disch:=omega) [zz,Tryz.f95,←hX,Y3]
   ·rw[if_neg (by simp[hmv];omega)]at hX
    simp (disch:=omega) [zz,hmv]
    intro bb
    simp (disch:=omega) [zz,Tryz.f95,←hX,Y3]
    simp[kJ,zK,strs,AV.ers_eq,Function.comp_def,AV.er]
noncomputable def zF (p:Txt):HObj:=.var .str (.s p)
noncomputable def yE (v:AV):HObj:=.var .func v
noncomputable def JU (Q:Nat):HObj:=.var YR (.map (some Q))

def zcq (R:Nat) (q:Option Nat) (S:q8):ThV→AV→Prop
 | .add,v=>v=.bm 99 [.ptr R kQ []]
 | .scan w,v=>∃Q br bw bs,q=some Q∧v=.fn 136 [.ptr br .ptr [],.ptr bw .str [],.ptr bs YR []]∧(br,zA R)∈S∧(bw,zF w)∈S∧(bs,JU Q)∈S
def UX (R:Nat) (q:Option Nat) (S:q8):CoV→AV→Prop
 | .there t,v=>∃br bt tv,v=.fn 135 [.ptr br .ptr [],.ptr bt .func []]∧(br,zA R)∈S∧(bt,yE tv)∈S∧zcq R q S t tv
 | .tr,v=>∃br,v=.fn 100 [.ptr br .ptr []]∧(br,zA R)∈S
def zDS (R:Nat) (q:Option Nat) (S:q8):TdV→AV→Prop
 | .cmd c,v=>∃br bc,v=.fn 65 [.ptr br .ptr [],.ptr bc QE []]∧(br,zA R)∈S∧(bc,kJ c)∈S
 | .ans k p,v=>∃bt br bp kv,v=.fn 134 [.ptr bt .func [],.ptr br .ptr [],.ptr bp .str []]∧(bt,yE kv)∈S∧(br,zA R)∈S∧(bp,zF p)∈S∧UX R q S k kv
 | .line s w,v=>∃Q bs bw br bm,q=some Q∧v=.fn 138 [.ptr bs .str [],.ptr bw .str [],.ptr br .ptr [],.ptr bm YR []]∧bs≠bw∧(bs,zF s)∈S∧(bw,zF w)∈S∧(br,zA R)∈S∧(bm,JU Q)∈S
theorem zcq.mono {R:Nat} {q:Option Nat} {S S':q8} (h:∀x∈S,x∈S'):∀ {t:ThV} {v:AV},zcq R q S t v→zcq R q S' t v
 | .add,_,e=>e
 | .scan _,_,⟨Q,br,bw,bs,e0,e,h1,h2,h3⟩=>⟨Q,br,bw,bs,e0,e,h _ h1,h _ h2,h _ h3⟩
theorem UX.mono {R:Nat} {q:Option Nat} {S S':q8} (h:∀x∈S,x∈S'):∀ {t:CoV} {v:AV},UX R q S t v→UX R q S' t v
 | .there _,_,⟨br,bt,tv,e,h1,h2,h3⟩=>⟨br,bt,tv,e,h _ h1,h _ h2,h3.mono h⟩
 | .tr,_,⟨br,e,h1⟩=>⟨br,e,h _ h1⟩
theorem zDS.mono {R:Nat} {q:Option Nat} {S S':q8} (h:∀x∈S,x∈S'):∀ {t:TdV} {v:AV},zDS R q S t v→zDS R q S' t v
 | .cmd _,_,⟨br,bc,e,h1,h2⟩=>⟨br,bc,e,h _ h1,h _ h2⟩
 | .ans _ _,_,⟨bt,br,bp,kv,e,h1,h2,h3,h4⟩=>⟨bt,br,bp,kv,e,h _ h1,h _ h2,h _ h3,h4.mono h⟩
 | .line _ _,_,⟨Q,bs,bw,br,bm,e0,e,hn,h1,h2,h3,h4⟩=>⟨Q,bs,bw,br,bm,e0,e,hn,h _ h1,h _ h2,h _ h3,h _ h4⟩
theorem zcq.er {R:Nat} {q:Option Nat} {S:q8} {t:ThV} {v:AV} (h:zcq R q S t v):v.er=v∧v.erk=v:=by
 cases t with
 | add=>rw[show v=_ from h];exact⟨rfl,rfl⟩
 | scan w=>obtain⟨_,_,_,_,_,rfl,_⟩:=h;exact⟨rfl,rfl⟩
theorem UX.er {R:Nat} {q:Option Nat} {S:q8} {t:CoV} {v:AV} (h:UX R q S t v):v.er=v∧v.erk=v:=by
 cases t with
 | there t=>obtain⟨_,_,_,rfl,_⟩:=h;exact⟨rfl,rfl⟩
 | tr=>obtain⟨_,rfl,_⟩:=h;exact⟨rfl,rfl⟩
theorem zDS.erk {R:Nat} {q:Option Nat} {S:q8} {t:TdV} {v:AV} (h:zDS R q S t v):v.erk=v:=by
 cases t with
 | cmd c=>obtain⟨_,_,rfl,_⟩:=h;rfl
 | ans k p=>obtain⟨_,_,_,_,rfl,_⟩:=h;rfl
 | line s w=>obtain⟨_,_,_,_,_,_,rfl,_⟩:=h;rfl
inductive yN (R:Nat) (q:Option Nat) (S:q8):List TdV→List AV→Prop
 | nil:yN R q S [] []
 | cons {t v ts vs}:zDS R q S t v→yN R q S ts vs→yN R q S (t::ts) (v::vs)
theorem yN.mono {R:Nat} {q:Option Nat} {S S':q8} (h:∀x∈S,x∈S') {ts:List TdV} {vs:List AV} (hh:yN R q S ts vs):yN R q S' ts vs:=by
 induction hh with
 | nil=>exact .nil
 | cons a _ ih=>exact .cons (a.mono h) ih
theorem yN.len {R:Nat} {q:Option Nat} {S:q8} {ts:List TdV} {vs:List AV} (hh:yN R q S ts vs):ts.length=vs.length:=by
 induction hh with
 | nil=>rfl
 | cons _ _ ih=>simp[ih]
theorem yN.app {R:Nat} {q:Option Nat} {S:q8} {ts us:List TdV} {vs ws:List AV} (h1:yN R q S ts vs) (h2:yN R q S us ws):yN R q S (ts++us) (vs++ws):=by
 induction h1 with
 | nil=>exact h2
 | cons a _ ih=>exact .cons a ih
theorem yN.snoc {R:Nat} {q:Option Nat} {S:q8}:∀ {ts:List TdV} {t:TdV} {vs:List AV},yN R q S (ts++[t]) vs→∃us v,vs=us++[v]∧yN R q S ts us∧zDS R q S t v
 | [],t,vs,h=>by
  cases h with
  | cons a b=>cases b;exact⟨[],_,rfl,.nil,a⟩
 | x::ts,t,vs,h=>by
  cases h with
  | cons a b =>
   obtain⟨us,v,rfl,h1,h2⟩:=yN.snoc b
   exact⟨_::us,v,rfl,.cons a h1,h2⟩
theorem yN.jk {R:Nat} {q:Option Nat} {S:q8} {ts:List TdV} {vs:List AV} (hh:yN R q S ts vs):JK vs:=by
 unfold JK
 induction hh with
 | nil=>rfl
 | cons a _ ih=>rw[AV.erks_eq]at *;simp[a.erk,ih]
def zaQ (fs:List AV) (ta:AV) (TA:q8):Prop:=(fs=[]∧ta=.nsl∧TA=[])∨∃T cap j,JK j∧ta=.msl T 1 0 fs.length cap∧fs.length+j.length=cap∧TA=[(T,.var (.arr cap 1) (.agg (fs++j)))]
def zi4 (q:Option Nat) (l:List Txt) (QH:q8):Prop:=(q=none∧QH=[])∨∃Q,q=some Q∧QH=[(Q,.map 9 4 (QY l))]
structure zY where
 K:Nat
 q:Option Nat
 QH:q8
 TA:q8
 S:q8
 fs:List AV
 ta:AV
noncomputable def zY.core (p:zY) (R:Nat) (r:zCT):q8:=(R,qW p.ta (zS r.env) r.buf p.K r.asks r.waits r.over)::(p.K,.map 9 33 (knE r.known))::(p.TA++(p.QH++p.S))
structure zY.OK (p:zY) (R:Nat) (r:zCT):Prop where
 todo:zaQ p.fs p.ta p.TA
 seen:zi4 p.q r.seen p.QH
 box:p.S.er=p.S
 tds:yN R p.q p.S r.todo p.fs
def z6 (R:Nat) (r:zCT) (H:q8):Prop:=∃p:zY,p.OK R r∧H=p.core R r
theorem zaQ.er {R:Nat} {q:Option Nat} {S:q8} {ts:List TdV} {fs:List AV} {ta:AV} {TA:q8} (h:zaQ fs ta TA) (h2:yN R q S ts fs):TA.er=TA∧ta.erk=ta:=by
 rcases h with⟨rfl,rfl,rfl⟩|⟨T,cap,j,hj,rfl,hc,rfl⟩
 ·exact⟨rfl,rfl⟩
 ·have:=h2.jk.app hj
  refine⟨?_,rfl⟩
  simp only[q8.er_cons,q8.er_nil,HObj.er_var,AV.erk]
  rw[show AV.erks (fs++j)=fs++j from this]
theorem zi4.er {q:Option Nat} {l:List Txt} {QH:q8} (h:zi4 q l QH):QH.er=QH:=by
 rcases h with⟨_,rfl⟩|⟨Q,_,rfl⟩
 ·rfl
 ·simp[q8.er_cons,HObj.er_map,QY,AV.er,Function.comp_def]
theorem zV (l:List (Txt × Txt)):(zS l).erk=zS l:=by simp[zS,AV.erk,AV.ers_eq,Z7,Function.comp_def,AV.er,AV.ers]
theorem zhD (l:List KnV):(HObj.map 9 33 (knE l)).er=.map 9 33 (knE l):=by
 simp[HObj.er_map,knE,zH,AV.er,AV.ers,Function.comp_def]
theorem z6.er {R:Nat} {r:zCT} {H:q8} (h:z6 R r H):H.er=H:=by
 obtain⟨p,hp,rfl⟩:=h
 obtain⟨e1,e2⟩:=hp.todo.er hp.tds
 have e3:=ZA (buf:=r.buf) (K:=p.K) (asks:=r.asks) (waits:=r.waits) (over:=r.over) e2 (zV r.env)
 simp only[zY.core,q8.er_cons,q8.er_app,e1,hp.seen.er,hp.box,e3,zhD]
theorem GZ {a:Nat × HObj} {H:q8} (h:a∈H):∃r,H.Perm (a::r):=by
 obtain⟨l1,l2,rfl⟩:=List.append_of_mem h
 exact⟨l1++l2,List.perm_middle⟩
theorem zk9 {a b:Nat × HObj} {H:q8} (h1:a∈H) (h2:b∈H) (hn:a.1≠b.1):∃r,H.Perm (a::b::r):=by
 obtain⟨r,hr⟩:=GZ h1
 have hb:b∈r:=by
  rcases List.mem_cons.1 (hr.mem_iff.1 h2)with e|h
  ·exact absurd (congrArg Prod.fst e).symm hn
  ·exact h
 obtain⟨r',hr'⟩:=GZ hb
 exact⟨r',hr.trans (List.Perm.cons _ hr')⟩
theorem znf {a b c:Nat × HObj} {H:q8} (h1:a∈H) (h2:b∈H) (h3:c∈H) (n1:a.1≠b.1) (n2:a.1≠c.1) (n3:b.1≠c.1):∃r,H.Perm (a::b::c::r):=by
 obtain⟨r,hr⟩:=GZ h1
 have mem:∀ {x},x∈H→a.1≠x.1→x∈r:=fun {x} hx hn=>by
  rcases List.mem_cons.1 (hr.mem_iff.1 hx)with e|h
  ·exact absurd (congrArg Prod.fst e).symm hn
  ·exact h
 obtain⟨r',hr'⟩:=zk9 (mem h2 n1) (mem h3 n2) n3
 exact⟨r',hr.trans (List.Perm.cons _ hr')⟩
theorem Y4 {H:q8} (hn:H.keys.Nodup) {a b:Nat × HObj} (h1:a∈H) (h2:b∈H) (ho:a.2≠b.2):a.1≠b.1:=by
 intro e
 obtain⟨r,hr⟩:=GZ h1
 have hb:b∈r:=by
  rcases List.mem_cons.1 (hr.mem_iff.1 h2)with e'|h
  ·exact absurd (congrArg Prod.snd e').symm ho
  ·exact h
 have hnd:((a::r).map (·.1)).Nodup:=(hr.map _).nodup_iff.1 hn
 rw[List.map_cons,List.nodup_cons]at hnd
 exact hnd.1 (e▸List.mem_map.2 ⟨b,hb,rfl⟩)
theorem WW {H:q8}:H.er=H↔∀x∈H,x.2.er=x.2:=by
 induction H with
 | nil=>simp
 | cons a r ih =>
  obtain⟨b,o⟩:=a
  rw[q8.er_cons]
  constructor
  ·intro h x hx
   have h1:=(List.cons.inj h)
   rcases List.mem_cons.1 hx with rfl|hx
   ·exact congrArg Prod.snd h1.1
   ·exact ih.1 h1.2 x hx
  ·intro h
   rw[ih.2 fun x hx=>h x (List.mem_cons_of_mem _ hx),show o.er=o from h (b,o) (by simp)]
theorem VD {H H':q8} (hp:H.Perm H') (h:H.er=H):H'.er=H':=WW.2 fun x hx=>WW.1 h x (hp.mem_iff.2 hx)
theorem zY.memS {p:zY} {R:Nat} {r:zCT} {x:Nat × HObj} (h:x∈p.S):x∈p.core R r:=by
 unfold zY.core
 exact List.mem_cons_of_mem _ (List.mem_cons_of_mem _ (List.mem_append_right _ (List.mem_append_right _ h)))
theorem ze1 (R:Nat) (e:Int) {r:zCT} {H:q8} (h:z6 R r H):q7 Tryz.prog 104 [.av .ptr (.ptr R kQ []),.av (.int .i64) (.i .i64 e)] H fun x H'=>x=.tup []∧z6 R (wC e r) H':=by
 obtain⟨p,hp,rfl⟩:=h
 obtain⟨_,e2⟩:=hp.todo.er hp.tds
 refine q7.use (Hs:=[(R,qW p.ta (zS r.env) r.buf p.K r.asks r.waits r.over)]) (rest:=(p.K,.map 9 33 (knE r.known))::(p.TA++(p.QH++p.S))) (List.Perm.refl _) (zg8 R e _ _ _ _ _ _ _ e2 (zV r.env)) ?_
 rintro x H' ⟨rfl,rfl⟩ _
 exact⟨_,HSub.refl _,rfl,p,⟨hp.todo,hp.seen,hp.box,hp.tds⟩,rfl⟩
theorem zjg (R:Nat) (s:Txt) {r:zCT} {H:q8} (h:z6 R r H) (hb:r.buf.length≤1000000000) (hs:s.length≤1000000000000000):q7 Tryz.prog 99 [.av .ptr (.ptr R kQ []),.av .str (.s s)] H fun x H'=>x=.tup []∧z6 R (wW s r) H':=by
 obtain⟨p,hp,rfl⟩:=h
 obtain⟨_,e2⟩:=hp.todo.er hp.tds
 refine q7.use (Hs:=[(R,qW p.ta (zS r.env) r.buf p.K r.asks r.waits r.over)]) (rest:=(p.K,.map 9 33 (knE r.known))::(p.TA++(p.QH++p.S))) (List.Perm.refl _) (ziH R s _ _ _ _ _ _ _ e2 (zV r.env) hb hs) ?_
 rintro x H' ⟨rfl,rfl⟩ _
 refine⟨_,HSub.refl _,rfl,p,?_,?_⟩
 ·unfold wW
  split<;>exact⟨hp.todo,hp.seen,hp.box,hp.tds⟩
 ·unfold wW zY.core
  split<;>rfl
@[simp] theorem zmY:qZ Tryz.prog 135=true:=by kernel_rfl
@[simp] theorem zra:z8 Tryz.prog (.func 135)=false:=q9 zmY
@[simp] theorem zlW:qZ Tryz.prog 100=true:=by kernel_rfl
@[simp] theorem zqZ:z8 Tryz.prog (.func 100)=false:=q9 zlW
@[simp] theorem zzM:qZ Tryz.prog 134=true:=by kernel_rfl
@[simp] theorem zAI:z8 Tryz.prog (.func 134)=false:=q9 zzM
@[simp] theorem zkc:qZ Tryz.prog 136=true:=by kernel_rfl
@[simp] theorem zqX:z8 Tryz.prog (.func 136)=false:=q9 zkc
@[simp] theorem zmI:qZ Tryz.prog 138=true:=by kernel_rfl
@[simp] theorem zqr:z8 Tryz.prog (.func 138)=false:=q9 zmI
@[simp] theorem zol:qZ Tryz.prog 65=true:=by kernel_rfl
@[simp] theorem zrI:z8 Tryz.prog (.func 65)=false:=q9 zol
theorem zoK (R br:Nat) (x:KnV) {r:zCT} {p:zY} (hp:p.OK R r) (hbr:(br,zA R)∈p.S) (hb:r.buf.length≤1000000000) (hx:x.is=true→x.data.length≤1000000000) :
  q7 Tryz.prog 100 [.av (qD Tryz.prog 33) (zH x),.av .ptr (.ptr br .ptr [])] (p.core R r) fun y H'=>y=.tup []∧z6 R (coR .tr x r) H':=by
 have hH:z6 R r (p.core R r):=⟨p,hp,rfl⟩
 have her:=hH.er
 obtain⟨H,hHe⟩:∃H,H=p.core R r:=⟨_,rfl⟩
 have hm:(br,zA R)∈H:=hHe▸zY.memS hbr
 rw[←hHe]at hH her ⊢
 obtain⟨rest,hpm⟩:=GZ hm
 have hre:=VD hpm her
 refine q7.sub (R:=fun y H'=>y=.tup []∧∃H2,Ab.HSub H2 H'∧z6 R (coR .tr x r) H2) ?_ fun y H' ⟨h1,H2,h2,h3⟩ _=>⟨H2,h2,h1,h3⟩
 refine q7.perm hpm ?_
 rw[q8.er_cons]at hre
 have hre2:=(List.cons.inj hre).2
 refine zov Tryz.func100 cf0 fun imm0 w0=>?_
 simp (disch:=omega) [zz,zH]
 cases hxi:x.is
 ·simp (disch:=omega) [zz,hxi]
  simp (disch:=omega) [zz,Tryz.f100,hre2,coR,hxi]
  exact⟨H,HSub.of_perm hpm.symm,hH⟩
 ·simp (disch:=omega) [zz,hxi,zA]
  refine qE (R:=fun y H'=>y=.tup []∧z6 R (wW x.data r) H') H [] (by simpa[zA]using hpm.symm) rfl (by simp[qQ]) (by simp) ?_ ?_
  ·rw[her]
   simpa[TV.er,AV.er]using zjg R x.data hH hb (by have:=hx hxi;omega)
  rintro y H' ⟨rfl,hh⟩ _
  refine⟨H',by simpa using HSub.refl _,?_⟩
  have hhe:=hh.er
  simp (disch:=omega) [zz,Tryz.f100,hhe,coR,hxi]
  exact⟨H',HSub.refl _,hh⟩
theorem AT.absE {c:Ctx} {code:Code} {K:Exit→St→Prop} {s:St} (Q:(Nat→TV)→Prop) (h0:Q s.env) (h:∀E,Q E→AT c code K { s with env:=E }):AT c code K s:=h s.env h0
theorem zeS {P:Program} {l:Nat} {args:List TV} {H:q8} {R R':TV→q8→Prop} (h:YC P l args H R) (hr:∀r H',R r H'→H'.keys.Nodup→∃H'':q8,Ab.HSub H'' H'∧R' r H''):YC P l args H R':=by
 intro imm w vs h1 h2
 obtain⟨f,tmps,as',bo,h3,h4⟩:=h imm w vs h1 h2
 refine⟨f,tmps,as',bo,h3,RoundIn.mono h4 ?_⟩
 rintro e w' ⟨v,r,imm',H',a,b,c,d,st⟩
 obtain⟨H'',hs,hR⟩:=hr _ _ b d.nodup
 exact⟨v,r,imm',H'',a,hR,c,⟨d.imm,hs.nodup d.nodup,fun b o ho=>d.obj b o (hs.subset ho),d.tab⟩,⟨st.os,st.tape,st.output,st.size,st.frame,st.imm,st.kept,fun b hb=>st.dom b (hs.keys hb),st.drawn⟩⟩
theorem zfP {P:Program} {l:Nat} {args:List TV} {H H1:q8} {R:TV→q8→Prop} (hp:H1.Perm H) (h:YC P l args H R):YC P l args H1 R:=by
 intro imm w vs hrep h2
 have hr:Rep P (g0 imm) w H:=⟨hrep.imm,(hp.map _).nodup_iff.1 hrep.nodup,fun b o ho=>hrep.obj b o (hp.mem_iff.2 ho),hrep.tab⟩
 obtain⟨f,tmps,as',bo,h3,h4⟩:=h imm w vs hr h2
 refine⟨f,tmps,as',bo,h3,RoundIn.mono h4 ?_⟩
 rintro e w' ⟨v,r,imm',H',a,b,c,d,st⟩
 exact⟨v,r,imm',H',a,b,c,d,st.keys fun b=>((hp.map (·.1)).mem_iff).symm⟩
theorem ze0 {P:Program} {l:Nat} {args:List TV} {H:q8} {R:TV→q8→Prop} (h:H.keys.Nodup→YC P l args H R):YC P l args H R :=
 fun imm w vs h1 h2=>h h1.nodup imm w vs h1 h2
@[simp] theorem zlz:qZ Tryz.prog 137=true:=by kernel_rfl
@[simp] theorem zqY:z8 Tryz.prog (.func 137)=false:=q9 zlz
@[simp] theorem zzQ:qZ Tryz.prog 175=true:=by kernel_rfl
@[simp] theorem zAZ:z8 Tryz.prog (.func 175)=false:=q9 zzQ
abbrev zel:TyD:=.slice 9
noncomputable def bsO (l:List Txt):HObj:=.var zel (.sl .no (strs l))
theorem zjc (l:List Txt):(bsO l).er=bsO l:=by simp[bsO,HObj.er_var,AV.erk]
abbrev zsc:Cfg:=⟨fun n=>n==1,fun _=>false⟩
theorem zji (l:List Txt):q7 Tryz.prog 137 [.av zel (.sl .no (strs l))] [] fun r H'=>∃c,r=.av .func (.fn 175 [.ptr c zel []])∧H'=[(c,bsO l)]:=by
 refine zov Tryz.func137 zsc fun imm0 w0=>?_
 simp (disch:=omega) [zz]
 intro c
 simp (disch:=omega) [zz,Tryz.f137,bsO,AV.ers]
set_option maxHeartbeats 4000000 in
theorem zhr {G:Nat→q8→Prop} (y c:Nat) (l:List Txt) (hl:l.length≤1000000000) (hGe:∀k H,G k H→H.er=H)
  (hY:∀k (hk:k<l.length) H,G k H→YC Tryz.prog y [.av (.int .i64) (.i .i64 (l.length-1-k:Nat)),.av .str (.s (l[l.length-1-k]'(by omega)))] H fun r H'=>r=.av .bool (.b true)∧G (k+1) H') :
  ∀H,G 0 H→q7 Tryz.prog 175 [.av .func (.yl y),.av .ptr (.ptr c zel [])] ((c,bsO l)::H)
   fun r H'=>r=.tup []∧∃H1,G l.length H1∧H'=(c,bsO l)::H1:=by
 intro H hG
 have hbe:=zjc l
 have hsl:∀x:List Txt,(strs x).length=x.length:=fun x=>by simp[strs]
 refine zov Tryz.func175 cf0 fun imm0 w0=>?_
 simp (disch:=omega) [zz,bsO,hsl]
 refine AT.loop' (α:=Nat × q8) (fun p=>St.of [(0,.av .func (.yl y)),(1,.av .ptr (.ptr c zel [])),(3,.av (.int .i64) (.i .i64 ((l.length:Int)-1-p.1)))] [] (fun _=>0) ((c,bsO l)::p.2))
  (fun p=>p.1≤l.length∧G p.1 p.2) (fun p=>l.length-p.1) (0,H) ?_ ?_ ?_
 ·apply Le.of<;>simp[qU,qG,bsO]<;>try omega
 ·exact⟨by omega,hG⟩
 rintro⟨k,H1⟩ ⟨hk,hG1⟩ KL hN hE
 simp only at hk hG1 hN
 refine qM (cf:=cf0) laid mixed _ _ _ (by kernel_rfl) ?_
 by_cases hlt:k<l.length
 ·obtain⟨i,hi⟩:∃i:Nat,i=l.length-1-k:=⟨_,rfl⟩
  have hii:(l.length:Int)-1-k=i:=by omega
  have hil:i<l.length:=by omega
  have hgi:(strs l)[i]?=some (.s l[i]):=by simp[strs,List.getElem?_eq_getElem hil]
  rw[hii]
  have hge:(0:Int)≤i:=by omega
  simp (disch:=omega) [zz,hge,bsO,hgi,hsl,hil]
  refine JY (R:=fun r H'=>r=.av .bool (.b true)∧G (k+1) H') H1 [(c,bsO l)] (List.perm_append_comm (l₁:=[_])) (by simp[qQ]) ?_ ?_
  ·rw[hGe _ _ hG1]
   have:=hY k hlt _ hG1
   simpa[TV.er,←hi]using this
  rintro r H2 ⟨rfl,hG2⟩ _
  refine⟨(c,bsO l)::H2,HSub.of_perm (List.perm_append_comm (l₂:=[_])),?_⟩
  simp (disch:=omega) [zz]
  refine hN _ (k+1,H2) ?_ ⟨by omega,hG2⟩ (by simp only;omega)
  apply Le.of<;>simp[qU,qG,bsO]<;>try omega
 ·have hge:(l.length:Int)-1-k=-1:=by omega
  rw[hge]
  simp (disch:=omega) [zz]
  refine hE _ _ (by simp) ?_
  have hkl:k=l.length:=by omega
  subst hkl
  have hH:=hGe _ _ hG1
  simp (disch:=omega) [zz,Tryz.f175,hH,hbe]
  exact⟨hG1,by first|rfl|simp[bsO]⟩
end Go.Proofs.YtcgpcfcbienapaaGreatDoor
end
