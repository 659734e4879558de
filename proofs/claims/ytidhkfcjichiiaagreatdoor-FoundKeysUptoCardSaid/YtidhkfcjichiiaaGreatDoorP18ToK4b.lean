/- strings.Builder. No condition beyond each theorem's own. -/
import Derived.Test.YtidhkfcjichiiaaGreatDoorL0
import Derived.Test.YtidhkfcjichiiaaGreatDoorQ0ToK5
import Derived.Test.YtidhkfcjichiiaaGreatDoorP10ToK6
set_option linter.unusedSimpArgs false
set_option linter.unusedVariables false
set_option linter.unusedSectionVars false
section
set_option maxRecDepth 100000
namespace Go.Proofs.YtidhkfcjichiiaaGreatDoor
open Go Go.Ab
open Classical
variable [Sel]
@[simp] theorem zkC:qZ Tryz.prog 192=true:=by kernel_rfl
@[simp] theorem zpW:z8 Tryz.prog (.func 192)=false:=q9 zkC
@[simp] theorem zkr:qZ Tryz.prog 144=true:=by kernel_rfl
@[simp] theorem zqg:z8 Tryz.prog (.func 144)=false:=q9 zkr
@[simp] theorem zkp:qZ Tryz.prog 146=true:=by kernel_rfl
@[simp] theorem zqB:z8 Tryz.prog (.func 146)=false:=q9 zkp
@[simp] theorem zls:qZ Tryz.prog 147=true:=by kernel_rfl
@[simp] theorem zq4:z8 Tryz.prog (.func 147)=false:=q9 zls
@[simp] theorem zsK:qD Tryz.prog 296=.other:=by kernel_rfl
@[simp] theorem zrG:z8 Tryz.prog (.func 235)=true:=by kernel_rfl
theorem znX:zpe Tryz.prog (.func 235):=⟨_,Tryz.func235,by kernel_rfl,by kernel_rfl,by kernel_rfl,by kernel_rfl⟩
abbrev QR:TyD:=.struct [216,197]
def bys (l:List UInt8):List AV:=l.map fun b=>.i .u8 b.toNat
@[simp] theorem zo0 (l:List UInt8):(bys l).length=l.length:=by simp[bys]
@[simp] theorem zpc (l:List UInt8):AV.erks (bys l)=bys l:=by simp[bys,AV.erks_eq,AV.erk,Function.comp_def]
@[simp] theorem zrc (l:List UInt8):AV.ers (bys l)=bys l:=by simp[bys,AV.ers_eq,AV.er,Function.comp_def]
theorem zbd (a b:List UInt8):bys a++bys b=bys (a++b):=by simp[bys]
theorem zdK (l:List UInt8) (n:Nat):(bys l).take n=bys (l.take n):=by simp[bys,List.map_take]
theorem zjK (l:List UInt8) (n:Nat):(bys l).drop n=bys (l.drop n):=by simp[bys,List.map_drop]
theorem zfD (n:Nat):List.replicate n (AV.i .u8 0)=bys (List.replicate n 0):=by simp[bys]
theorem WH:∀l,bytesOf (bys l)=some l
 | []=>rfl
 | b::l=>by
  have:=WH l
  simp only[bys,List.map_cons,bytesOf]at this ⊢
  rw[this]
  simp
theorem zj9 (b:Nat) (buf:AV) (hb:buf.erk=buf):q7 Tryz.prog 192 [.av .ptr (.ptr b QR [])] [(b,.var QR (.agg [.nilptr,buf]))] fun r H'=>r=.tup []∧H'=[(b,.var QR (.agg [.ptr b QR [],buf]))]:=by
 refine q7.of_vc laid mixed Tryz.func192 rfl cf0 (by kernel_rfl) (by simp[Tryz.ntmps192]) fun imm0 w0=>?_
 (simp (disch:=first|omega|assumption) [zz])
 refine⟨by kernel_rfl,znX,by kernel_rfl,?_⟩
 (simp (disch:=first|omega|assumption) [zz,Tryz.f192,hb])
theorem zm6 (b:Nat) (buf:AV) (hb:buf.erk=buf):q7 Tryz.prog 192 [.av .ptr (.ptr b QR [])] [(b,.var QR (.agg [.ptr b QR [],buf]))] fun r H'=>r=.tup []∧H'=[(b,.var QR (.agg [.ptr b QR [],buf]))]:=by
 refine q7.of_vc laid mixed Tryz.func192 rfl cf0 (by kernel_rfl) (by simp[Tryz.ntmps192]) fun imm0 w0=>?_
 (simp (disch:=first|omega|assumption) [zz])
 refine⟨by kernel_rfl,?_⟩
 (simp (disch:=first|omega|assumption) [zz,Tryz.f192,hb])
inductive BS (b:Nat) (bs:List UInt8):q8→Prop
 | fresh (p:AV) (hp:p=.nilptr∨p=.ptr b QR []) (h:bs=[]):BS b bs [(b,.var QR (.agg [p,.nsl]))]
 | row (p:AV) (hp:p=.nilptr∨p=.ptr b QR []) (r cap:Nat) (rs:List UInt8) (hc:bs.length+rs.length=cap) (h0:0<cap):BS b bs [(b,.var QR (.agg [p,.msl r 5 0 bs.length cap])),(r,.var (.arr cap 5) (.agg (bys (bs++rs))))]
theorem zjH (b:Nat) (p buf:AV) (hp:p=.nilptr∨p=.ptr b QR []) (hb:buf.erk=buf):q7 Tryz.prog 192 [.av .ptr (.ptr b QR [])] [(b,.var QR (.agg [p,buf]))] fun r H'=>r=.tup []∧H'=[(b,.var QR (.agg [.ptr b QR [],buf]))]:=by
 rcases hp with rfl|rfl
 ·exact zj9 b buf hb
 ·exact zm6 b buf hb
theorem BS.er {b:Nat} {bs:List UInt8} {H:q8} (h:BS b bs H):H.er=H:=by
 cases h with
 | fresh p hp h=>rcases hp with rfl|rfl<;>simp[q8.er,HObj.er,AV.erk,AV.erks]
 | row p hp r cap rs hc h0=>rcases hp with rfl|rfl<;>simp[q8.er,HObj.er,AV.erk,AV.erks]
def BSs (b:Nat) (bs:List UInt8) (H:q8):Prop:=∃H2,HSub H2 H∧BS b bs H2
theorem q7.bss {P:Program} {f:FuncId} {args:List TV} {H:q8} {r0:TV} {b:Nat} {bs:List UInt8} (h:q7 P f args H fun r H'=>r=r0∧BSs b bs H'):q7 P f args H fun r H'=>r=r0∧BS b bs H' :=
 h.sub fun r H' ⟨h1,H2,h2,h3⟩ _=>⟨H2,h2,h1,h3⟩
set_option maxHeartbeats 4000000 in
theorem zp2 (b:Nat) (bs x:List UInt8) (H:q8) (hB:BS b bs H) (hl:bs.length+x.length≤100000000000) :
  q7 Tryz.prog 144 [.av .ptr (.ptr b QR []),.av .str (.s x)] H fun r H'=>r=.tup [(.int .i64,.i .i64 x.length),(.iface,.nilifc)]∧BS b (bs++x) H':=by
 refine q7.bss <| q7.nodup fun hnd=>?_
 have ebx:(x.map fun b=>AV.i .u8 b.toNat)=bys x:=rfl
 cases hB with
 | fresh p hp h =>
  subst h
  simp at hl
  refine q7.of_vc laid mixed Tryz.func144 rfl cf0 (by kernel_rfl) (by simp[Tryz.ntmps144]) fun imm0 w0=>?_
  (simp (disch:=first|omega|assumption) [zz])
  refine jP (R:=fun r H'=>r=.tup []∧H'=[(b,.var QR (.agg [.ptr b QR [],.nsl]))]) rfl (by simp[qQ]) (by simp) ?_ ?_
  ·have hpe:p.erk=p:=by rcases hp with rfl|rfl<;>rfl
   simpa[TV.er,AV.er,q8.er_cons,q8.er_nil,HObj.er,AV.erk,AV.erks,hpe]using zjH b p .nsl hp rfl
  rintro r H' ⟨rfl,rfl⟩
  (simp (disch:=first|omega|assumption) [zz])
  refine⟨by omega,fun hx=>?_,fun hx r cap hr hcap=>?_⟩
  ·subst hx
   (simp (disch:=first|omega|assumption) [zz,Tryz.f144])
   exact⟨_,HSub.refl _,.fresh _ (.inr rfl) rfl⟩
  ·have hr':¬b=r:=fun e=>hr e.symm
   (simp (disch:=first|omega|assumption) [zz,Tryz.f144,hr,hr',ebx,zfD,zbd])
   refine⟨_,HSub.of_perm (List.Perm.swap _ _ _),?_⟩
   have:=BS.row (b:=b) (bs:=x) (.ptr b QR []) (.inr rfl) r cap (List.replicate (cap-x.length) 0) (by simp;omega) (by omega)
   exact this
 | row p hp r cap rs hc h0 =>
  simp[q8.keys]at hnd
  have hnd':¬r=b:=fun e=>hnd e.symm
  have etk:(bys (bs++rs)).take bs.length=bys bs:=by rw[zdK,List.take_left]
  have edr:(bys (bs++rs)).drop (bs.length+x.length)=bys (rs.drop x.length):=by
   rw[zjK,List.drop_append,List.drop_eq_nil_of_le (by omega),List.nil_append,Nat.add_sub_cancel_left]
  refine q7.of_vc laid mixed Tryz.func144 rfl cf0 (by kernel_rfl) (by simp[Tryz.ntmps144]) fun imm0 w0=>?_
  (simp (disch:=first|omega|assumption) [zz])
  refine qE (R:=fun r' H'=>r'=.tup []∧H'=[(b,.var QR (.agg [.ptr b QR [],.msl r 5 0 bs.length cap]))]) [(b,.var QR (.agg [p,.msl r 5 0 bs.length cap]))] [(r,.var (.arr cap 5) (.agg (bys (bs++rs))))] (List.Perm.refl _) rfl (by simp[qQ]) (by simp) ?_ ?_
  ·have hpe:p.erk=p:=by rcases hp with rfl|rfl<;>rfl
   simpa[TV.er,AV.er,q8.er_cons,q8.er_nil,HObj.er,AV.erk,AV.erks,hpe]using zjH b p (.msl r 5 0 bs.length cap) hp rfl
  rintro r' H' ⟨rfl,rfl⟩ _
  refine⟨_,HSub.refl _,?_⟩
  (simp (disch:=first|omega|assumption) [zz,hnd,hnd',etk,edr,ebx,zbd])
  refine⟨by omega,by omega,fun hx=>?_,fun hx r2 cap2 hr2 hr2' hcap2=>?_⟩
  ·(simp (disch:=first|omega|assumption) [zz,Tryz.f144,hnd,hnd'])
   refine⟨_,HSub.refl _,?_⟩
   have:=BS.row (b:=b) (bs:=bs++x) (.ptr b QR []) (.inr rfl) r cap (rs.drop x.length) (by simp;omega) h0
   simpa using this
  ·have hr2b:¬b=r2:=fun e=>hr2 e.symm
   (simp (disch:=first|omega|assumption) [zz,Tryz.f144,hr2,hr2b,hr2',hnd,hnd',zfD,zbd])
   refine⟨_,⟨_,List.Perm.swap _ _ _,((List.Sublist.refl _).cons _).cons_cons _ |>.cons_cons _⟩,?_⟩
   have:=BS.row (b:=b) (bs:=bs++x) (.ptr b QR []) (.inr rfl) r2 cap2 (List.replicate (cap2-(bs.length+x.length)) 0) (by simp;omega) (by omega)
   simpa using this
set_option maxHeartbeats 4000000 in
theorem zAD (b:Nat) (bs:List UInt8) (x:UInt8) (H:q8) (hB:BS b bs H) (hl:bs.length≤100000000000) :
  q7 Tryz.prog 146 [.av .ptr (.ptr b QR []),.av (.int .u8) (.i .u8 x.toNat)] H fun r H'=>r=.av .iface .nilifc∧BS b (bs++[x]) H':=by
 refine q7.bss <| q7.nodup fun hnd=>?_
 have ebx:[AV.i .u8 x.toNat]=bys [x]:=rfl
 have ebc:∀l,AV.i .u8 x.toNat::bys l=bys (x::l):=fun l=>rfl
 cases hB with
 | fresh p hp h =>
  subst h
  simp at hl
  refine q7.of_vc laid mixed Tryz.func146 rfl cf0 (by kernel_rfl) (by simp[Tryz.ntmps146]) fun imm0 w0=>?_
  (simp (disch:=first|omega|assumption) [zz])
  refine jP (R:=fun r H'=>r=.tup []∧H'=[(b,.var QR (.agg [.ptr b QR [],.nsl]))]) rfl (by simp[qQ]) (by simp) ?_ ?_
  ·have hpe:p.erk=p:=by rcases hp with rfl|rfl<;>rfl
   simpa[TV.er,AV.er,q8.er_cons,q8.er_nil,HObj.er,AV.erk,AV.erks,hpe]using zjH b p .nsl hp rfl
  rintro r H' ⟨rfl,rfl⟩
  (simp (disch:=first|omega|assumption) [zz])
  intro r cap hr hcap
  ·have hr':¬b=r:=fun e=>hr e.symm
   (simp (disch:=first|omega|assumption) [zz,Tryz.f146,hr,hr',ebx,ebc,zfD,zbd])
   refine⟨_,HSub.of_perm (List.Perm.swap _ _ _),?_⟩
   have:=BS.row (b:=b) (bs:=[x]) (.ptr b QR []) (.inr rfl) r cap (List.replicate (cap-1) 0) (by simp;omega) (by omega)
   exact this
 | row p hp r cap rs hc h0 =>
  simp[q8.keys]at hnd
  have hnd':¬r=b:=fun e=>hnd e.symm
  have etk:(bys (bs++rs)).take bs.length=bys bs:=by rw[zdK,List.take_left]
  have edr:(bys (bs++rs)).drop (bs.length+1)=bys (rs.drop 1):=by
   rw[zjK,List.drop_append,List.drop_eq_nil_of_le (by omega),List.nil_append,Nat.add_sub_cancel_left]
  refine q7.of_vc laid mixed Tryz.func146 rfl cf0 (by kernel_rfl) (by simp[Tryz.ntmps146]) fun imm0 w0=>?_
  (simp (disch:=first|omega|assumption) [zz])
  refine qE (R:=fun r' H'=>r'=.tup []∧H'=[(b,.var QR (.agg [.ptr b QR [],.msl r 5 0 bs.length cap]))]) [(b,.var QR (.agg [p,.msl r 5 0 bs.length cap]))] [(r,.var (.arr cap 5) (.agg (bys (bs++rs))))] (List.Perm.refl _) rfl (by simp[qQ]) (by simp) ?_ ?_
  ·have hpe:p.erk=p:=by rcases hp with rfl|rfl<;>rfl
   simpa[TV.er,AV.er,q8.er_cons,q8.er_nil,HObj.er,AV.erk,AV.erks,hpe]using zjH b p (.msl r 5 0 bs.length cap) hp rfl
  rintro r' H' ⟨rfl,rfl⟩ _
  refine⟨_,HSub.refl _,?_⟩
  (simp (disch:=first|omega|assumption) [zz,hnd,hnd',etk,edr,ebx,ebc,zbd])
  refine⟨by omega,by omega,fun hx=>?_,fun hx r2 cap2 hr2 hr2' hcap2=>?_⟩
  ·(simp (disch:=first|omega|assumption) [zz,Tryz.f146,hnd,hnd'])
   refine⟨_,HSub.refl _,?_⟩
   have:=BS.row (b:=b) (bs:=bs++[x]) (.ptr b QR []) (.inr rfl) r cap (rs.drop 1) (by simp;omega) h0
   simpa using this
  ·have hr2b:¬b=r2:=fun e=>hr2 e.symm
   (simp (disch:=first|omega|assumption) [zz,Tryz.f146,hr2,hr2b,hr2',hnd,hnd',zfD,zbd])
   refine⟨_,⟨_,List.Perm.swap _ _ _,((List.Sublist.refl _).cons _).cons_cons _ |>.cons_cons _⟩,?_⟩
   have:=BS.row (b:=b) (bs:=bs++[x]) (.ptr b QR []) (.inr rfl) r2 cap2 (List.replicate (cap2-(bs.length+1)) 0) (by simp;omega) (by omega)
   simpa using this
set_option maxHeartbeats 4000000 in
theorem zav (b:Nat) (bs:List UInt8) (H:q8) (hB:BS b bs H) (hl:bs.length≤100000000000) :
  q7 Tryz.prog 147 [.av .ptr (.ptr b QR [])] H fun r H'=>r=.av .str (.s bs):=by
 refine q7.nodup fun hnd=>?_
 cases hB with
 | fresh p hp h =>
  subst h
  refine q7.of_vc laid mixed Tryz.func147 rfl cf0 (by kernel_rfl) (by simp[Tryz.ntmps147]) fun imm0 w0=>?_
  (simp (disch:=first|omega|assumption) [zz,Tryz.f147])
  (show UZ _ _=true;kernel_rfl)
 | row p hp r cap rs hc h0 =>
  simp[q8.keys]at hnd
  have hnd':¬r=b:=fun e=>hnd e.symm
  have hc0:¬cap=0:=by omega
  have etk:(bys (bs++rs)).take bs.length=bys bs:=by rw[zdK,List.take_left]
  have hbo:=WH bs
  refine q7.of_vc laid mixed Tryz.func147 rfl cf0 (by kernel_rfl) (by simp[Tryz.ntmps147]) fun imm0 w0=>?_
  (simp (disch:=first|omega|assumption) [zz,hnd,hnd',etk,hc0,hbo])
  refine⟨(show UZ _ _=true by kernel_rfl),by kernel_rfl,by omega,by omega,?_⟩
  (simp (disch:=first|omega|assumption) [zz,Tryz.f147])
end Go.Proofs.YtidhkfcjichiiaaGreatDoor
end
section
set_option maxRecDepth 100000
namespace Go.Proofs.YtidhkfcjichiiaaGreatDoor
open Go Go.Ab
open Classical
variable [Sel] [SelPow]
@[simp] theorem zo8:qZ Tryz.prog 90=true:=by kernel_rfl
@[simp] theorem zsm:z8 Tryz.prog (.func 90)=false:=q9 zo8
@[simp] theorem zo7:qZ Tryz.prog 88=true:=by kernel_rfl
@[simp] theorem zs5:z8 Tryz.prog (.func 88)=false:=q9 zo7
def WI:List (List UInt8)→List UInt8
 | []=>[]
 | s::l=>Lib.itoa s.length++58::s++WI l
theorem zyZ:∀a b,WI (a++b)=WI a++WI b
 | [],_=>rfl
 | s::a,b=>by
  have:=zyZ a b
  simp only[List.cons_append,WI,this]
  simp
theorem zyO (l:List (List UInt8)) (k:Nat):(WI (l.take k)).length≤(WI l).length:=by
 conv=>rhs;rw[←List.take_append_drop k l,zyZ]
 simp
def zz6 (l:List (List UInt8)):List AV:=l.map AV.s
theorem zzr (p:List (List UInt8)) (k:Nat) (h:k<p.length):(zz6 p)[k]?=some (.s p[k]):=by simp[zz6,List.getElem?_eq_getElem h]
@[simp] theorem zAo (l:List (List UInt8)):(zz6 l).length=l.length:=by simp[zz6]
abbrev zAr:Cfg:=⟨fun n=>n==3,fun n=>n==3⟩
set_option maxHeartbeats 8000000 in
theorem zzx (l:List (List UInt8)) (hn:l.length≤9223372036854775807) (hl:(WI l).length≤10000000000) :
  PC Tryz.prog 90 [.av (.slice 9) (.sl .no (zz6 l))] (.av .str (.s (WI l))):=by
 unfold PC
 refine q7.sub (R:=fun r H'=>r=.av .str (.s (WI l))) ?_ (fun r H' hr _=>⟨[],HSub.of_sub (List.nil_sublist _),hr,rfl⟩)
 refine q7.of_vc laid mixed Tryz.func90 rfl zAr (by kernel_rfl) (by simp[Tryz.ntmps90]) fun imm0 w0=>?_
 (simp (maxSteps:=2000000) (disch:=first|omega|assumption) [zz])
 intro b
 refine AT.loop' (α:=Nat × q8) (fun x=>St.of [(3,.av .ptr (.ptr b QR [])),(6,.av (.slice 9) (.sl .no (zz6 l))),(7,.av (.int .i64) (.i .i64 l.length)),(8,.av (.int .i64) (.i .i64 x.1))] [] (fun _=>0) x.2)
  (fun x=>x.1≤l.length∧BS b (WI (l.take x.1)) x.2) (fun x=>l.length-x.1) (0,[(b,.var QR (.agg [.nilptr,.nsl]))]) ?_ ?_ ?_
 ·refine Le.of ?_ ?_ ?_ ?_ ?_<;>simp[qU,qG,qO,qH,qP,qK,qF,qI,qJ,qN,zX]<;>try omega
 ·exact⟨by omega,.fresh _ (.inl rfl) rfl⟩
 rintro⟨k,H⟩ ⟨hk,hB⟩ KL hN hE
 simp only at hk hB hN
 refine qM (cf:=zAr) laid mixed _ _ _ (by kernel_rfl) ?_
 have htl:=zyO l k
 by_cases hlt:k<l.length
 ·have hlt':(k:Int)<l.length:=by omega
  have hg:=zzr l k hlt
  have htl2:=zyO l (k+1)
  have hsn:WI (l.take (k+1))=WI (l.take k)++Lib.itoa l[k].length++[58]++l[k]:=by
   rw[List.take_succ_eq_append_getElem hlt,zyZ]
   simp[WI]
  rw[hsn]at htl2
  simp at htl2
  obtain⟨s,hs⟩:∃s,s=l[k]:=⟨_,rfl⟩
  rw[←hs]at hg hsn htl2
  (simp (maxSteps:=2000000) (disch:=first|omega|assumption) [zz,hlt',hg])
  refine qL (zlV s.length (by omega) (by omega)) rfl rfl (by simp) (by simp[qS,TV.er,AV.er]) ?_
  (simp (maxSteps:=2000000) (disch:=first|omega|assumption) [zz])
  refine jP (R:=fun r H'=>r=.tup [(.int .i64,.i .i64 (Lib.itoa s.length).length),(.iface,.nilifc)]∧BS b (WI (l.take k)++Lib.itoa s.length) H') rfl (by simp[qQ]) (by simp) ?_ ?_
  ·have:=zp2 b (WI (l.take k)) (Lib.itoa s.length) H hB (by omega)
   simpa[TV.er,AV.er,hB.er]using this
  rintro r H1 ⟨rfl,hB1⟩
  (simp (maxSteps:=2000000) (disch:=first|omega|assumption) [zz])
  refine jP (R:=fun r H'=>r=.av .iface .nilifc∧BS b (WI (l.take k)++Lib.itoa s.length++[58]) H') rfl (by simp[qQ]) (by simp) ?_ ?_
  ·show q7 _ _ _ (q8.er H1) _
   rw[hB1.er]
   exact q7.args (zAD b (WI (l.take k)++Lib.itoa s.length) 58 H1 hB1 (by simp;omega)) (by simp[qS,TV.er,AV.er,coC])
  rintro r H2 ⟨rfl,hB2⟩
  (simp (maxSteps:=2000000) (disch:=first|omega|assumption) [zz])
  refine jP (R:=fun r H'=>r=.tup [(.int .i64,.i .i64 s.length),(.iface,.nilifc)]∧BS b (WI (l.take k)++Lib.itoa s.length++[58]++s) H') rfl (by simp[qQ]) (by simp) ?_ ?_
  ·have:=zp2 b (WI (l.take k)++Lib.itoa s.length++[58]) s H2 hB2 (by simp;omega)
   simpa[TV.er,AV.er,hB2.er]using this
  rintro r H3 ⟨rfl,hB3⟩
  (simp (maxSteps:=2000000) (disch:=first|omega|assumption) [zz])
  refine hN _ (k+1,H3) ?_ ⟨by omega,by rw[hsn];exact hB3⟩ (by simp;omega)
  refine Le.of ?_ ?_ ?_ ?_ ?_<;>simp[qU,qG,qO,qH,qP,qK,qF,qI,qJ,qN,zX]<;>try omega
 ·have hlt':¬(k:Int)<l.length:=by omega
  (simp (maxSteps:=2000000) (disch:=first|omega|assumption) [zz,hlt'])
  refine hE _ _ (by simp) ?_
  rw[List.take_of_length_le (by omega)]at hB
  (simp (maxSteps:=2000000) (disch:=first|omega|assumption) [zz])
  refine jP (R:=fun r H'=>r=.av .str (.s (WI l))) rfl (by simp[qQ]) (by simp) ?_ ?_
  ·have:=zav b (WI l) H hB (by omega)
   simpa[TV.er,AV.er,hB.er]using this
  rintro r H1 rfl
  (simp (maxSteps:=2000000) (disch:=first|omega|assumption) [zz,Tryz.f90])
end Go.Proofs.YtidhkfcjichiiaaGreatDoor
end
section
set_option maxRecDepth 100000
namespace Go.Proofs.YtidhkfcjichiiaaGreatDoor
open Go Go.Ab
open Classical
variable [Sel] [SelPow] [SelMax]
theorem zih {s sub:List UInt8} {i:Nat} (h1:i≤s.length) (h2:Lib.occAt s sub i=true):∃m:Nat,Lib.index s sub=m∧Lib.occAt s sub m=true∧m≤s.length:=by
 induction i using Nat.strongRecOn with
 | ind i ih =>
  by_cases hf:∀j,j<i→Lib.occAt s sub j=false
  ·exact⟨i,Lib.index_first h1 h2 hf,h2,h1⟩
  ·obtain⟨j,hj⟩:=Classical.not_forall.1 hf
   obtain⟨hji,hj2⟩:=Classical.not_imp.1 hj
   exact ih j hji (by omega) (by simpa using hj2)
theorem WQ:∀ {l cur x:List UInt8},x∈kA cur l→∃a b,cur++l=a++x++b
 | [],cur,x,h=>by
  unfold kA at h
  split at h
  ·cases h
  ·simp only[List.mem_singleton]at h;subst h;exact⟨[],[],by simp⟩
 | c::r,cur,x,h=>by
  unfold kA at h
  split at h
  ·split at h
   ·rename_i hc
    obtain⟨a,b,e⟩:=WQ h
    subst hc
    refine⟨c::a,b,?_⟩
    simp only[List.nil_append]at e ⊢
    rw[e];simp
   ·rcases List.mem_cons.1 h with rfl|h
    ·exact⟨[],c::r,by simp⟩
    ·obtain⟨a,b,e⟩:=WQ h
     refine⟨cur++c::a,b,?_⟩
     simp only[List.nil_append]at e
     rw[e];simp
  ·obtain⟨a,b,e⟩:=WQ h
   exact⟨a,b,by rw[←e];simp⟩
theorem zeb {s:Txt} (h:tText∈zR s):∃m:Nat,Lib.index s tText=m∧m+4≤s.length:=by
 obtain⟨a,b,e⟩:=WQ h
 simp only[List.nil_append]at e
 have hocc:Lib.occAt s tText a.length=true:=by
  unfold Lib.occAt
  rw[e]
  simp[List.isPrefixOf_iff_prefix]
 obtain⟨m,h1,h2,h3⟩:=zih (by rw[e];simp) hocc
 refine⟨m,h1,?_⟩
 rcases Lib.occAt_room h2 with h|h
 ·exact h
 ·cases h
noncomputable def kJ (c:CmdV):HObj:=.var QE (zK c)
def Y3 (x:Option (Option CmdV)) (r:TV) (H':q8):Prop:=match x with
 | none=>r=.tup [(.ptr,.nilptr),(.bool,.b false)]∧H'=[]
 | some none=>r=.tup [(.ptr,.nilptr),(.bool,.b true)]∧H'=[]
 | some (some c)=>∃b,r=.tup [(.ptr,.ptr b QE []),(.bool,.b true)]∧H'=[(b,kJ c)]
@[simp] theorem zkg:qZ Tryz.prog 211=true:=by kernel_rfl
@[simp] theorem zpT:z8 Tryz.prog (.func 211)=false:=q9 zkg
@[simp] theorem zmU:qZ Tryz.prog 165=true:=by kernel_rfl
@[simp] theorem zqN:z8 Tryz.prog (.func 165)=false:=q9 zmU
set_option maxHeartbeats 4000000 in
theorem CZ (l:Txt) (hl:l.length≤1000000):PC Tryz.prog 211 [.av .str (.s l)] (.av .str (.s l)):=by
 unfold PC
 refine q7.sub (R:=fun r H'=>r=.av .str (.s l)) ?_ (fun r H' hr _=>⟨[],HSub.of_sub (List.nil_sublist _),hr,rfl⟩)
 refine q7.of_vc laid mixed Tryz.func211 rfl cf0 (by kernel_rfl) (by simp[Tryz.ntmps211]) fun imm0 w0=>?_
 by_cases h0:l=[]
 ·subst h0
  (simp (disch:=first|omega|assumption) [zz,-List.reduceReplicate,Tryz.f211])
 ·have hp:0<l.length:=List.length_pos_iff.2 h0
  have h0':¬(l.length:Int)=0:=by omega
  have hbo:bytesOf (List.take l.length (l.map fun b=>AV.i .u8 (b.toNat:Int)))=some l:=by
   rw[List.take_of_length_le (by simp)]
   exact WH l
  (simp (disch:=first|omega|assumption) [zz,-List.reduceReplicate,h0,h0'])
  refine⟨by omega,by omega,fun b=>⟨hp,by kernel_rfl,by omega,?_⟩⟩
  rw[hbo]
  (simp (disch:=first|omega|assumption) [zz,-List.reduceReplicate,Tryz.f211])
theorem p0 (l:Txt) (hl:l.length≤1000000):PC Tryz.prog 165 [.av .str (.s l)] (.av .str (.s l)):=by
 refine PC.of <| q7.of_vc laid mixed Tryz.func165 rfl cf0 (by kernel_rfl) (by simp[Tryz.ntmps165]) fun imm0 w0=>?_
 (simp (disch:=first|omega|assumption) [zz,-List.reduceReplicate])
 refine qL (CZ l hl) rfl rfl (by simp) (by simp[qS,TV.er,AV.er]) ?_
 (simp (disch:=first|omega|assumption) [zz,-List.reduceReplicate,Tryz.f165])
theorem zgw (n:Txt) (h:(jU n).2=true):(jU n).1=2∨(jU n).1=3:=by
 unfold jU at h ⊢
 by_cases a:n=zZ∨n=w8∨n=j8
 ·rw[if_pos a];simp
 rw[if_neg a]at h ⊢
 by_cases b:n=jT
 ·rw[if_pos b];simp
 rw[if_neg b]at h ⊢
 by_cases c:n=yO∨n=wQ∨n=kG
 ·rw[if_pos c]at h;cases h
 rw[if_neg c]at h
 by_cases d:n=wP∨n=y4∨n=kV∨n=kY∨n=yR
 ·rw[if_pos d]at h;cases h
 ·rw[if_neg d]at h;cases h
abbrev zrj:Cfg:=⟨fun n=>n==38||n==66,fun n=>n==1000006||n==2000038⟩
set_option maxHeartbeats 8000000 in
theorem zhN (l:Txt) (hl:l.length≤1000000):q7 Tryz.prog 110 [.av .str (.s l)] [] (Y3 (Z0 l)):=by
 obtain⟨X,hX⟩:∃X,Z0 l=X:=⟨_,rfl⟩
 rw[hX]
 unfold Z0 at hX
 obtain⟨ws,hws⟩:∃ws,zR l=ws:=⟨_,rfl⟩
 have hw:=zdn l hl
 have heach:∀w∈ws,w≠[]∧w.length≤l.length:=fun w hw=>by
  rw[←hws]at hw
  have:=ZI hw
  exact⟨this.1,by simpa using this.2⟩
 have htx:tText∈ws→∃m:Nat,Lib.index l tText=m∧m+4≤l.length:=fun h=>zeb (hws▸h)
 have hwl:ws.length≤l.length+1:=by rw[←hws];exact uI
 rw[hws]at hX hw
 refine q7.of_vc laid mixed Tryz.func110 rfl zrj (by kernel_rfl) (by simp[Tryz.ntmps110]) fun imm0 w0=>?_
 (simp (disch:=first|omega|assumption) [zz,-List.reduceReplicate])
 refine qL hw rfl rfl (by simp) (by simp[qS,TV.er,AV.er]) ?_
 match ws,hX,heach,htx,hwl with
 | [],hX,_,_,_ =>
  simp only at hX
  (simp (disch:=first|omega|assumption) [zz,-List.reduceReplicate,strs,Tryz.f110,←hX,Y3])
 | w::wr,hX,heach,htx,hwl =>
  simp only at hX
  obtain⟨hne,hwlen⟩:=heach w (by simp)
  obtain⟨c,w',rfl⟩:=List.exists_cons_of_ne_nil hne
  have hnz:¬(wr.length:Int)+1=0:=by omega
  by_cases hc:c=35
  ·subst hc
   rw[if_pos (show ((35:UInt8)::w').head?=some 35 from rfl)]at hX
   (simp (disch:=first|omega|assumption) [zz,-List.reduceReplicate,strs,hnz])
   (simp (disch:=first|omega|assumption) [zz,-List.reduceReplicate,Tryz.f110,←hX,Y3])
  rw[if_neg (by simpa using hc)]at hX
  have hc':¬(c.toNat:Int)=35:=by have:=YH (n:=35) (by omega) hc;simpa using this
  by_cases htt:c::w'=tText
  ·rw[if_pos htt]at hX
   obtain⟨m,hm,hml⟩:=htx (by rw[←htt];simp)
   have hcc:c=116∧w'=[101,120,116]:=by simpa[tText]using htt
   obtain⟨rfl,rfl⟩:=hcc
   (simp (disch:=first|omega|assumption) [zz,-List.reduceReplicate,strs,hnz,hc'])
   refine qL (ziG l tText (by omega)) rfl rfl (by simp) (by simp[qS,coC,TV.er,AV.er,tText]) ?_
   rw[hm]
   have h4:(0:Int)≤(m:Int)+4:=by omega
   have h4':(m:Int)+4≤l.length:=by omega
   (simp (disch:=first|omega|assumption) [zz,-List.reduceReplicate,h4,h4'])
   refine jW.of [0,1,2,3,4,5,6,7,8,9,10,11] [] (by kernel_rfl) ?_
   obtain⟨rs,hrs⟩:∃rs,rs=l.drop (m+4):=⟨_,rfl⟩
   have hrest:List.drop 1 (List.drop ((Lib.index l tText).toNat+4) l)=rs.drop 1:=by rw[hm,hrs];rfl
   rw[hrest]at hX
   have hmn:min 1 rs.length≤rs.length:=Nat.min_le_right _ _
   by_cases hr1:rs.length<1
   ·have hr1':(rs.length:Int)<1:=by omega
    have hrn:rs=[]:=List.length_eq_zero_iff.1 (by omega)
    subst hrn
    (simp (disch:=first|omega|assumption) [zz,-List.reduceReplicate,h4,h4',←hrs])
    (repeat with_reducible refine om ?_)
    refine jC (p0 [] (by simp)) rfl rfl (by simp) (by simp[qS,TV.er,AV.er]) ?_
    (simp (disch:=first|omega|assumption) [zz,-List.reduceReplicate])
    (repeat with_reducible refine om ?_)
    intro bb
    (simp (disch:=first|omega|assumption) [zz,-List.reduceReplicate,Tryz.f110,←hX,Y3])
    simp[kJ,zK,strs,AV.ers_eq,Function.comp_def,AV.er]
   ·have hr1':¬(rs.length:Int)<1:=by omega
    have hr2:1≤rs.length:=by omega
    have hrl:rs.length≤l.length:=by rw[hrs,List.length_drop];omega
    (simp (disch:=first|omega|assumption) [zz,-List.reduceReplicate,h4,h4',←hrs,hr1',hr2])
    (repeat with_reducible refine om ?_)
    refine jC (p0 (rs.drop 1) (by rw[List.length_drop];omega)) rfl rfl (by simp) (by simp[qS,TV.er,AV.er]) ?_
    (simp (disch:=first|omega|assumption) [zz,-List.reduceReplicate])
    (repeat with_reducible refine om ?_)
    intro bb
    (simp (disch:=first|omega|assumption) [zz,-List.reduceReplicate,Tryz.f110,←hX,Y3])
    simp[kJ,zK,strs,AV.ers_eq,Function.comp_def,AV.er]
  rw[if_neg htt]at hX
  have htt':¬(c=116∧w'=[101,120,116]):=by simpa[tText]using htt
  (simp (disch:=first|omega|assumption) [zz,-List.reduceReplicate,strs,hnz,hc',htt'])
  refine qL (zj8 (c::w')) rfl rfl (by simp) (by simp[qS,TV.er,AV.er]) ?_
  have htk:=zgw (c::w')
  obtain⟨tk,htke⟩:∃x,x=jU (c::w'):=⟨_,rfl⟩
  obtain⟨tn,tp⟩:=tk
  rw[←htke]at hX htk ⊢
  simp only at hX htk ⊢
  by_cases h1:tn=(wr.length:Int)+1
  rotate_left
  ·rw[if_pos (.inl h1)]at hX
   (simp (disch:=first|omega|assumption) [zz,-List.reduceReplicate,h1])
   (simp (disch:=first|omega|assumption) [zz,-List.reduceReplicate,Tryz.f110,←hX,Y3])
  subst h1
  have hz:¬(wr.length:Int)+1=0:=by omega
  cases tp with
  | false =>
   rw[if_neg (by simp;omega)]at hX
   (simp (disch:=first|omega|assumption) [zz,-List.reduceReplicate,hz])
   intro bb
   (simp (disch:=first|omega|assumption) [zz,-List.reduceReplicate,Tryz.f110,←hX,Y3])
   simp[kJ,zK,strs,AV.ers_eq,Function.comp_def,AV.er]
  | true =>
   have hwr:wr≠[]:=by
    rintro rfl
    have:=htk rfl
    simp at this
   obtain⟨p,wr',rfl⟩:=List.exists_cons_of_ne_nil hwr
   have hpl:=(heach p (by simp)).2
   have hz2:¬(wr'.length:Int)+1+1=0:=by omega
   have hz3:(1:Int)<(wr'.length:Int)+1+1:=by omega
   (simp (disch:=first|omega|assumption) [zz,-List.reduceReplicate,hz,hz2,hz3])
   refine qL (DL p (by omega)) rfl rfl (by simp) (by simp[qS,TV.er,AV.er]) ?_
   cases hmv:yV p
   ·rw[if_pos (by simp[hmv])]at hX
    (simp (disch:=first|omega|assumption) [zz,-List.reduceReplicate,hmv])
    (simp (disch:=first|omega|assumption) [zz,-List.reduceReplicate,Tryz.f110,←hX,Y3])
   ·rw[if_neg (by simp[hmv];omega)]at hX
    (simp (disch:=first|omega|assumption) [zz,-List.reduceReplicate,hmv])
    intro bb
    (simp (disch:=first|omega|assumption) [zz,-List.reduceReplicate,Tryz.f110,←hX,Y3])
    simp[kJ,zK,strs,AV.ers_eq,Function.comp_def,AV.er]
end Go.Proofs.YtidhkfcjichiiaaGreatDoor
end
