/- Numbers as texts. No condition. -/
import Derived.Test.YtognnffjdckalaaGreatDoorL0
import Derived.Test.YtognnffjdckalaaGreatDoorShelf
set_option linter.unusedSimpArgs false
set_option linter.unusedVariables false
set_option linter.unusedSectionVars false
set_option maxHeartbeats 64000000
section
set_option maxRecDepth 100000
namespace Go.Proofs.YtognnffjdckalaaGreatDoor
open Go Go.Ab
open Classical
open Go.Sort (grow)
section
variable [Sel] [SelPow]
theorem PC.of_grow {P:Program} {f:FuncId} {args:List TV} {vs0:List Value} {r:TV} {v:Value} (hdet:∀imm w vs,ARs P (g0 imm) w args vs->vs=vs0) (hr:∀imm w,AR P (g0 imm) w r v)
  (h:∀imm w,XD P imm w->Calls P f vs0.toArray w fun e w'=>e=.returned v/\∃k os,w'=grow (w.drewN k) os):PC P f args r:=by
 intro imm w vs hrep hargs
 have:=hdet imm w vs.toList hargs
 have hv:vs=vs0.toArray:=by rw[<-this]
 subst hv
 refine(h imm w hrep.tab).mono ?_
 rintro e w' ⟨rfl,k,os,rfl⟩
 have hlt:∀(b:Nat) (o:Obj),w.heap[b]?=some o->(grow (w.drewN k) os).heap[b]?=some o:=by
  intro b o hb
  have h1:=(Array.getElem?_eq_some_iff.1 hb).1
  show (w.heap++os)[b]?=some o
  rw[Array.getElem?_append_left h1];exact hb
 have hk:zS (g0 imm) w (grow (w.drewN k) os):=fun b cs E fz _ hb=>⟨cs,E,fz,hlt _ _ hb,rfl,fun _ _=>rfl⟩
 refine⟨v,r,imm,[],rfl,⟨rfl,rfl⟩,hr _ _,⟨fun b hb=>?_,by simp[q7.keys],by simp,hrep.tab.keep (g:=g0 imm) (g':=g0 imm) (Gh.le_refl _) hrep.imm hk⟩,?_⟩
 ·obtain⟨cs,E,fz,h1,h2⟩:=hrep.imm b hb
  exact⟨cs,E,fz,hlt _ _ h1,h2⟩
 ·exact {
   os:=rfl,tape:=rfl,output:=rfl,drawn:=fun _=>by show w.drawn<=w.drawn+k;omega
   size:=by show w.heap.size<=(w.heap++os).size;simp
   frame:=fun b hb _=>⟨by show (w.heap++os)[b]?=_;rw[Array.getElem?_append_left hb],rfl⟩
   imm:=fun _=>Nat.le_refl _
   kept:=fun b cs E fz h0 hb=>hk b cs E fz h0 hb
   dom:=fun b hb=>by simp[q7.keys]at hb }
theorem zme {P:Program} {g:Gh} {w:World} {e:TypeId}:∀(zs:List Int) (cs:List Value),VL P g w e (zs.map (AV.i .u64 ·)) cs->cs=zs.map (Value.int .u64 ·)
 | [],cs,h=>by simpa[VL]using h
 | z::zs,cs,h=>by
  simp only[List.map_cons,VL]at h
  obtain⟨c1,c2,rfl,h1,h2⟩:=h
  have:=zme zs c2 h2
  simp only[VC]at h1
  rw[h1.2,this];rfl
theorem ztk:Tryz.prog.globalNamed "internal/strconv.uint64pow10" = some 1:=by kernel_rfl
theorem zmv:(1,TyD.arr 20 218,AV.agg (Lib.pow10Tab.map (AV.i .u64 ·)))∈zdM Tryz.prog:=by
 have h1:q8 Tryz.prog ((Tryz.prog.globals[1]?).get (by kernel_rfl)).type=.arr 20 218:=by kernel_rfl
 rw[<-h1]
 exact zlu (gl:=(Tryz.prog.globals[1]?).get (by kernel_rfl)) (by kernel_rfl) (by kernel_rfl) SelPow.pow
theorem zqm {imm:Nat->Nat} {w:World} (h:XD Tryz.prog imm w):Lib.TabIs Tryz.prog w "internal/strconv.uint64pow10" .u64 Lib.pow10Tab:=by
 obtain⟨h1,h2,h3,cs,E,fz,h4,h5⟩:=h.1 _ _ _ zmv
 have hsz:szD Tryz.prog (.arr 20 218)=20:=by simp[szD]
 rw[hsz]at h2 h5
 simp only[VC]at h2
 have hv:=zme _ _ h2.2
 have hc:z6 w 1 0 20=cs.toList:=by
  unfold z6
  rw[h4]
  simp only[List.drop_zero]
  exact List.take_of_length_le (by simp[h5])
 rw[hc]at hv
 unfold Lib.TabIs World.var?
 rw[ztk]
 simp only[Option.bind_some,h4]
 rw[<-hv]
theorem zdk (n:Int) (h0:-9223372036854775808<=n) (h1:n<=9223372036854775807):PC Tryz.prog 146 [.av (.int .i64) (.i .i64 n),.av (.int .i64) (.i .i64 10)] (.av .str (.s (Lib.itoa n))):=by
 refine PC.of_grow (vs0:=[.int .i64 n,.int .i64 10]) (v:=.string ⟨(Lib.itoa n).toArray⟩) ?_ (fun _ _=>⟨rfl,rfl,rfl⟩) fun imm w ht=>Tryz.strconv_FormatInt_10 n h0 h1 w (zqm ht)
 intro imm w vs h
 match vs,h with
 | [a,b],⟨⟨f1,_,h1⟩,⟨f2,_,h2⟩,_⟩ =>
  rw[qI rfl f1]at h1
  rw[qI rfl f2]at h2
  simp at h1 h2
  rw[h1,h2]
theorem zpH (n:Int) (h0:-9223372036854775808<=n) (h1:n<=9223372036854775807):PC Tryz.prog 97 [.av (.int .i64) (.i .i64 n)] (.av .str (.s (Lib.itoa n))):=by
 refine PC.of_grow (vs0:=[.int .i64 n]) (v:=.string ⟨(Lib.itoa n).toArray⟩) ?_ (fun _ _=>⟨rfl,rfl,rfl⟩) fun imm w ht=>Tryz.strconv_Itoa n h0 h1 w (zqm ht)
 intro imm w vs h
 match vs,h with
 | [a],⟨⟨f1,_,h1⟩,_⟩ =>
  rw[qI rfl f1]at h1
  simp at h1
  rw[h1]
theorem zlt (n:Int) (h0:-9223372036854775808<=n) (h1:n<=9223372036854775807):PC Tryz.prog 88 [.av (.int .i64) (.i .i64 n)] (.av .str (.s (Lib.itoa n))):=by
 refine zow Tryz.func88 cf0 fun imm0 w0=>?_
 simp (disch:=omega) [zz]
 refine YE (zdk n h0 h1) rfl rfl (by simp) (by simp[q9,TV.er,AV.er,coC]) ?_
 simp (disch:=omega) [zz,Tryz.f88]
end
end Go.Proofs.YtognnffjdckalaaGreatDoor
end
section
set_option maxRecDepth 100000
namespace Go.Proofs.YtognnffjdckalaaGreatDoor
open Go Go.Ab
open Classical
section
variable [Sel]
@[simp] theorem ztC:q8 Tryz.prog 257=.other:=by kernel_rfl
@[simp] theorem ztr:qN Tryz.prog (.func 184)=true:=by kernel_rfl
theorem zrk:zrY Tryz.prog (.func 184):=⟨_,Tryz.func184,by kernel_rfl,by kernel_rfl,by kernel_rfl,by kernel_rfl⟩
abbrev yN:TyD:=.struct [176,168]
def bys (l:List UInt8):List AV:=l.map fun b=>.i .u8 b.toNat
@[simp] theorem zrc (l:List UInt8):(bys l).length=l.length:=by simp[bys]
@[simp] theorem zs1 (l:List UInt8):AV.erks (bys l)=bys l:=by simp[bys,AV.erks_eq,AV.erk,Function.comp_def]
@[simp] theorem zsG (l:List UInt8):AV.ers (bys l)=bys l:=by simp[bys,AV.ers_eq,AV.er,Function.comp_def]
theorem vO (a b:List UInt8):bys a++bys b=bys (a++b):=by simp[bys]
theorem zay (l:List UInt8) (n:Nat):(bys l).take n=bys (l.take n):=by simp[bys,List.map_take]
theorem zg1 (l:List UInt8) (n:Nat):(bys l).drop n=bys (l.drop n):=by simp[bys,List.map_drop]
theorem cX (n:Nat):List.replicate n (AV.i .u8 0)=bys (List.replicate n 0):=by simp[bys]
theorem x4:∀l,bytesOf (bys l)=some l
 | []=>rfl
 | b::l=>by
  have:=x4 l
  simp only[bys,List.map_cons,bytesOf]at this |-
  rw[this]
  simp
theorem zny (b:Nat) (buf:AV) (hb:buf.erk=buf):q6 Tryz.prog 151 [.av .ptr (.ptr b yN [])] [(b,.var yN (.agg [.nilptr,buf]))] fun r H'=>r=.tup []/\H'=[(b,.var yN (.agg [.ptr b yN [],buf]))]:=by
 refine zov Tryz.func151 cf0 fun imm0 w0=>?_
 simp (disch:=omega) [zz]
 refine⟨by kernel_rfl,zrk,by kernel_rfl,?_⟩
 simp (disch:=omega) [zz,Tryz.f151,hb]
theorem zpU (b:Nat) (buf:AV) (hb:buf.erk=buf):q6 Tryz.prog 151 [.av .ptr (.ptr b yN [])] [(b,.var yN (.agg [.ptr b yN [],buf]))] fun r H'=>r=.tup []/\H'=[(b,.var yN (.agg [.ptr b yN [],buf]))]:=by
 refine zov Tryz.func151 cf0 fun imm0 w0=>?_
 simp (disch:=omega) [zz]
 refine⟨by kernel_rfl,?_⟩
 simp (disch:=omega) [zz,Tryz.f151,hb]
inductive BS (b:Nat) (bs:List UInt8):q7->Prop
 | fresh (p:AV) (hp:p=.nilptr\/p=.ptr b yN []) (h:bs=[]):BS b bs [(b,.var yN (.agg [p,.nsl]))]
 | row (p:AV) (hp:p=.nilptr\/p=.ptr b yN []) (r cap:Nat) (rs:List UInt8) (hc:bs.length+rs.length=cap) (h0:0<cap):BS b bs [(b,.var yN (.agg [p,.msl r 5 0 bs.length cap])),(r,.var (.arr cap 5) (.agg (bys (bs++rs))))]
theorem zec (b:Nat) (p buf:AV) (hp:p=.nilptr\/p=.ptr b yN []) (hb:buf.erk=buf):q6 Tryz.prog 151 [.av .ptr (.ptr b yN [])] [(b,.var yN (.agg [p,buf]))] fun r H'=>r=.tup []/\H'=[(b,.var yN (.agg [.ptr b yN [],buf]))]:=by
 rcases hp with rfl|rfl
 ·exact zny b buf hb
 ·exact zpU b buf hb
theorem BS.er {b:Nat} {bs:List UInt8} {H:q7} (h:BS b bs H):H.er=H:=by
 cases h with
 | fresh p hp h=>rcases hp with rfl|rfl<;>simp[q7.er,HObj.er,AV.erk,AV.erks]
 | row p hp r cap rs hc h0=>rcases hp with rfl|rfl<;>simp[q7.er,HObj.er,AV.erk,AV.erks]
def BSs (b:Nat) (bs:List UInt8) (H:q7):Prop:=∃H2,HSub H2 H/\BS b bs H2
theorem q6.bss {P:Program} {f:FuncId} {args:List TV} {H:q7} {r0:TV} {b:Nat} {bs:List UInt8} (h:q6 P f args H fun r H'=>r=r0/\BSs b bs H'):q6 P f args H fun r H'=>r=r0/\BS b bs H' :=
 h.sub fun r H' ⟨h1,H2,h2,h3⟩ _=>⟨H2,h2,h1,h3⟩
theorem zlG (b:Nat) (bs x:List UInt8) (H:q7) (hB:BS b bs H) (hl:bs.length+x.length<=100000000000) :
  q6 Tryz.prog 96 [.av .ptr (.ptr b yN []),.av .str (.s x)] H fun r H'=>r=.tup [(.int .i64,.i .i64 x.length),(.iface,.nilifc)]/\BS b (bs++x) H':=by
 refine q6.bss <| q6.nodup fun hnd=>?_
 have ebx:(x.map fun b=>AV.i .u8 b.toNat)=bys x:=rfl
 cases hB with
 | fresh p hp h =>
  subst h
  simp at hl
  refine zov Tryz.func96 cf0 fun imm0 w0=>?_
  simp (disch:=omega) [zz]
  refine zF (R:=fun r H'=>r=.tup []/\H'=[(b,.var yN (.agg [.ptr b yN [],.nsl]))]) rfl (by simp[qH]) (by simp) ?_ ?_
  ·have hpe:p.erk=p:=by rcases hp with rfl|rfl<;>rfl
   simpa[TV.er,AV.er,q7.er_cons,q7.er_nil,HObj.er,AV.erk,AV.erks,hpe]using zec b p .nsl hp rfl
  rintro r H' ⟨rfl,rfl⟩
  simp (disch:=omega) [zz]
  refine⟨by omega,fun hx=>?_,fun hx r cap hr hcap=>?_⟩
  ·subst hx
   simp (disch:=omega) [zz,Tryz.f96]
   exact⟨_,HSub.refl _,.fresh _ (.inr rfl) rfl⟩
  ·have hr':¬b=r:=fun e=>hr e.symm
   simp (disch:=omega) [zz,Tryz.f96,hr,hr',ebx,cX,vO]
   refine⟨_,HSub.of_perm (List.Perm.swap _ _ _),?_⟩
   have:=BS.row (b:=b) (bs:=x) (.ptr b yN []) (.inr rfl) r cap (List.replicate (cap-x.length) 0) (by simp;omega) (by omega)
   exact this
 | row p hp r cap rs hc h0 =>
  simp[q7.keys]at hnd
  have hnd':¬r=b:=fun e=>hnd e.symm
  have etk:(bys (bs++rs)).take bs.length=bys bs:=by rw[zay,List.take_left]
  have edr:(bys (bs++rs)).drop (bs.length+x.length)=bys (rs.drop x.length):=by
   rw[zg1,List.drop_append,List.drop_eq_nil_of_le (by omega),List.nil_append,Nat.add_sub_cancel_left]
  refine zov Tryz.func96 cf0 fun imm0 w0=>?_
  simp (disch:=omega) [zz]
  refine qM (R:=fun r' H'=>r'=.tup []/\H'=[(b,.var yN (.agg [.ptr b yN [],.msl r 5 0 bs.length cap]))]) [(b,.var yN (.agg [p,.msl r 5 0 bs.length cap]))] [(r,.var (.arr cap 5) (.agg (bys (bs++rs))))] (List.Perm.refl _) rfl (by simp[qH]) (by simp) ?_ ?_
  ·have hpe:p.erk=p:=by rcases hp with rfl|rfl<;>rfl
   simpa[TV.er,AV.er,q7.er_cons,q7.er_nil,HObj.er,AV.erk,AV.erks,hpe]using zec b p (.msl r 5 0 bs.length cap) hp rfl
  rintro r' H' ⟨rfl,rfl⟩ _
  refine⟨_,HSub.refl _,?_⟩
  simp (disch:=omega) [zz,hnd,hnd',etk,edr,ebx,vO]
  refine⟨by omega,by omega,fun hx=>?_,fun hx r2 cap2 hr2 hr2' hcap2=>?_⟩
  ·simp (disch:=omega) [zz,Tryz.f96,hnd,hnd']
   refine⟨_,HSub.refl _,?_⟩
   have:=BS.row (b:=b) (bs:=bs++x) (.ptr b yN []) (.inr rfl) r cap (rs.drop x.length) (by simp;omega) h0
   simpa using this
  ·have hr2b:¬b=r2:=fun e=>hr2 e.symm
   simp (disch:=omega) [zz,Tryz.f96,hr2,hr2b,hr2',hnd,hnd',cX,vO]
   refine⟨_,⟨_,List.Perm.swap _ _ _,((List.Sublist.refl _).cons _).cons_cons _ |>.cons_cons _⟩,?_⟩
   have:=BS.row (b:=b) (bs:=bs++x) (.ptr b yN []) (.inr rfl) r2 cap2 (List.replicate (cap2-(bs.length+x.length)) 0) (by simp;omega) (by omega)
   simpa using this
theorem zrN (b:Nat) (bs:List UInt8) (x:UInt8) (H:q7) (hB:BS b bs H) (hl:bs.length<=100000000000) :
  q6 Tryz.prog 98 [.av .ptr (.ptr b yN []),.av (.int .u8) (.i .u8 x.toNat)] H fun r H'=>r=.av .iface .nilifc/\BS b (bs++[x]) H':=by
 refine q6.bss <| q6.nodup fun hnd=>?_
 have ebx:[AV.i .u8 x.toNat]=bys [x]:=rfl
 have ebc:∀l,AV.i .u8 x.toNat::bys l=bys (x::l):=fun l=>rfl
 cases hB with
 | fresh p hp h =>
  subst h
  simp at hl
  refine zov Tryz.func98 cf0 fun imm0 w0=>?_
  simp (disch:=omega) [zz]
  refine zF (R:=fun r H'=>r=.tup []/\H'=[(b,.var yN (.agg [.ptr b yN [],.nsl]))]) rfl (by simp[qH]) (by simp) ?_ ?_
  ·have hpe:p.erk=p:=by rcases hp with rfl|rfl<;>rfl
   simpa[TV.er,AV.er,q7.er_cons,q7.er_nil,HObj.er,AV.erk,AV.erks,hpe]using zec b p .nsl hp rfl
  rintro r H' ⟨rfl,rfl⟩
  simp (disch:=omega) [zz]
  intro r cap hr hcap
  ·have hr':¬b=r:=fun e=>hr e.symm
   simp (disch:=omega) [zz,Tryz.f98,hr,hr',ebx,ebc,cX,vO]
   refine⟨_,HSub.of_perm (List.Perm.swap _ _ _),?_⟩
   have:=BS.row (b:=b) (bs:=[x]) (.ptr b yN []) (.inr rfl) r cap (List.replicate (cap-1) 0) (by simp;omega) (by omega)
   exact this
 | row p hp r cap rs hc h0 =>
  simp[q7.keys]at hnd
  have hnd':¬r=b:=fun e=>hnd e.symm
  have etk:(bys (bs++rs)).take bs.length=bys bs:=by rw[zay,List.take_left]
  have edr:(bys (bs++rs)).drop (bs.length+1)=bys (rs.drop 1):=by
   rw[zg1,List.drop_append,List.drop_eq_nil_of_le (by omega),List.nil_append,Nat.add_sub_cancel_left]
  refine zov Tryz.func98 cf0 fun imm0 w0=>?_
  simp (disch:=omega) [zz]
  refine qM (R:=fun r' H'=>r'=.tup []/\H'=[(b,.var yN (.agg [.ptr b yN [],.msl r 5 0 bs.length cap]))]) [(b,.var yN (.agg [p,.msl r 5 0 bs.length cap]))] [(r,.var (.arr cap 5) (.agg (bys (bs++rs))))] (List.Perm.refl _) rfl (by simp[qH]) (by simp) ?_ ?_
  ·have hpe:p.erk=p:=by rcases hp with rfl|rfl<;>rfl
   simpa[TV.er,AV.er,q7.er_cons,q7.er_nil,HObj.er,AV.erk,AV.erks,hpe]using zec b p (.msl r 5 0 bs.length cap) hp rfl
  rintro r' H' ⟨rfl,rfl⟩ _
  refine⟨_,HSub.refl _,?_⟩
  simp (disch:=omega) [zz,hnd,hnd',etk,edr,ebx,ebc,vO]
  refine⟨by omega,by omega,fun hx=>?_,fun hx r2 cap2 hr2 hr2' hcap2=>?_⟩
  ·simp (disch:=omega) [zz,Tryz.f98,hnd,hnd']
   refine⟨_,HSub.refl _,?_⟩
   have:=BS.row (b:=b) (bs:=bs++[x]) (.ptr b yN []) (.inr rfl) r cap (rs.drop 1) (by simp;omega) h0
   simpa using this
  ·have hr2b:¬b=r2:=fun e=>hr2 e.symm
   simp (disch:=omega) [zz,Tryz.f98,hr2,hr2b,hr2',hnd,hnd',cX,vO]
   refine⟨_,⟨_,List.Perm.swap _ _ _,((List.Sublist.refl _).cons _).cons_cons _ |>.cons_cons _⟩,?_⟩
   have:=BS.row (b:=b) (bs:=bs++[x]) (.ptr b yN []) (.inr rfl) r2 cap2 (List.replicate (cap2-(bs.length+1)) 0) (by simp;omega) (by omega)
   simpa using this
theorem zd9 (b:Nat) (bs:List UInt8) (H:q7) (hB:BS b bs H) (hl:bs.length<=100000000000) :
  q6 Tryz.prog 99 [.av .ptr (.ptr b yN [])] H fun r H'=>r=.av .str (.s bs):=by
 refine q6.nodup fun hnd=>?_
 cases hB with
 | fresh p hp h =>
  subst h
  refine zov Tryz.func99 cf0 fun imm0 w0=>?_
  simp (disch:=omega) [zz,Tryz.f99]
  (show VZ _ _=true;kernel_rfl)
 | row p hp r cap rs hc h0 =>
  simp[q7.keys]at hnd
  have hnd':¬r=b:=fun e=>hnd e.symm
  have hc0:¬cap=0:=by omega
  have etk:(bys (bs++rs)).take bs.length=bys bs:=by rw[zay,List.take_left]
  have hbo:=x4 bs
  refine zov Tryz.func99 cf0 fun imm0 w0=>?_
  simp (disch:=omega) [zz,hnd,hnd',etk,hc0,hbo]
  refine⟨(show VZ _ _=true by kernel_rfl),by kernel_rfl,by omega,by omega,?_⟩
  simp (disch:=omega) [zz,Tryz.f99]
end
section
variable [Sel] [SelPow]
def k9:List (List UInt8)->List UInt8
 | []=>[]
 | s::l=>Lib.itoa s.length++58::s++k9 l
theorem U6:∀a b,k9 (a++b)=k9 a++k9 b
 | [],_=>rfl
 | s::a,b=>by
  have:=U6 a b
  simp only[List.cons_append,k9,this]
  simp
theorem u5 (l:List (List UInt8)) (k:Nat):(k9 (l.take k)).length<=(k9 l).length:=by
 conv=>rhs;rw[<-List.take_append_drop k l,U6]
 simp
def qG (l:List (List UInt8)):List AV:=l.map AV.s
theorem KC (p:List (List UInt8)) (k:Nat) (h:k<p.length):(qG p)[k]?=some (.s p[k]):=by simp[qG,List.getElem?_eq_getElem h]
@[simp] theorem wP (l:List (List UInt8)):(qG l).length=l.length:=by simp[qG]
abbrev zqf:Cfg:=⟨fun n=>n==3,fun n=>n==3⟩
theorem zgZ (l:List (List UInt8)) (hn:l.length<=9223372036854775807) (hl:(k9 l).length<=10000000000) :
  PC Tryz.prog 44 [.av (.slice 9) (.sl .no (qG l))] (.av .str (.s (k9 l))):=by
 unfold PC
 refine q6.sub (R:=fun r H'=>r=.av .str (.s (k9 l))) ?_ (fun r H' hr _=>⟨[],HSub.of_sub (List.nil_sublist _),hr,rfl⟩)
 refine zov Tryz.func44 zqf fun imm0 w0=>?_
 simp (disch:=omega) [zz]
 intro b
 refine AT.loop' (α:=Nat × q7) (fun x=>St.of [(3,.av .ptr (.ptr b yN [])),(6,.av (.slice 9) (.sl .no (qG l))),(7,.av (.int .i64) (.i .i64 l.length)),(8,.av (.int .i64) (.i .i64 x.1))] [] (fun _=>0) x.2)
  (fun x=>x.1<=l.length/\BS b (k9 (l.take x.1)) x.2) (fun x=>l.length-x.1) (0,[(b,.var yN (.agg [.nilptr,.nsl]))]) ?_ ?_ ?_
 ·apply Le.of<;>simp[le9,jF]<;>try omega
 ·exact⟨by omega,.fresh _ (.inl rfl) rfl⟩
 rintro⟨k,H⟩ ⟨hk,hB⟩ KL hN hE
 simp only at hk hB hN
 refine zrd zqf ?_
 have htl:=u5 l k
 by_cases hlt:k<l.length
 ·have hlt':(k:Int)<l.length:=by omega
  have hg:=KC l k hlt
  have htl2:=u5 l (k+1)
  have hsn:k9 (l.take (k+1))=k9 (l.take k)++Lib.itoa l[k].length++[58]++l[k]:=by
   rw[List.take_succ_eq_append_getElem hlt,U6]
   simp[k9]
  rw[hsn]at htl2
  simp at htl2
  obtain⟨s,hs⟩:∃s,s=l[k]:=⟨_,rfl⟩
  rw[<-hs]at hg hsn htl2
  simp (disch:=omega) [zz,hlt',hg]
  refine zcv (zpH s.length (by omega) (by omega)) ?_
  simp (disch:=omega) [zz]
  refine zF (R:=fun r H'=>r=.tup [(.int .i64,.i .i64 (Lib.itoa s.length).length),(.iface,.nilifc)]/\BS b (k9 (l.take k)++Lib.itoa s.length) H') rfl (by simp[qH]) (by simp) ?_ ?_
  ·have:=zlG b (k9 (l.take k)) (Lib.itoa s.length) H hB (by omega)
   simpa[TV.er,AV.er,hB.er]using this
  rintro r H1 ⟨rfl,hB1⟩
  simp (disch:=omega) [zz]
  refine zF (R:=fun r H'=>r=.av .iface .nilifc/\BS b (k9 (l.take k)++Lib.itoa s.length++[58]) H') rfl (by simp[qH]) (by simp) ?_ ?_
  ·show q6 _ _ _ (q7.er H1) _
   rw[hB1.er]
   exact q6.args (zrN b (k9 (l.take k)++Lib.itoa s.length) 58 H1 hB1 (by simp;omega)) (by simp[q9,TV.er,AV.er,coC])
  rintro r H2 ⟨rfl,hB2⟩
  simp (disch:=omega) [zz]
  refine zF (R:=fun r H'=>r=.tup [(.int .i64,.i .i64 s.length),(.iface,.nilifc)]/\BS b (k9 (l.take k)++Lib.itoa s.length++[58]++s) H') rfl (by simp[qH]) (by simp) ?_ ?_
  ·have:=zlG b (k9 (l.take k)++Lib.itoa s.length++[58]) s H2 hB2 (by simp;omega)
   simpa[TV.er,AV.er,hB2.er]using this
  rintro r H3 ⟨rfl,hB3⟩
  simp (disch:=omega) [zz]
  refine hN _ (k+1,H3) ?_ ⟨by omega,by rw[hsn];exact hB3⟩ (by simp;omega)
  apply Le.of<;>simp[le9,jF]<;>try omega
 ·have hlt':¬(k:Int)<l.length:=by omega
  simp (disch:=omega) [zz,hlt']
  refine hE _ _ (by simp) ?_
  rw[List.take_of_length_le (by omega)]at hB
  simp (disch:=omega) [zz]
  refine zF (R:=fun r H'=>r=.av .str (.s (k9 l))) rfl (by simp[qH]) (by simp) ?_ ?_
  ·have:=zd9 b (k9 l) H hB (by omega)
   simpa[TV.er,AV.er,hB.er]using this
  rintro r H1 rfl
  simp (disch:=omega) [zz,Tryz.f44]
abbrev zsn:Cfg:=⟨fun n=>n==1,fun _=>false⟩
theorem uW (d:Dig):qK d=.agg (bys d):=rfl
theorem pF (d:Dig) (hd:d.length=32):PC Tryz.prog 87 [.av (.arr 32 5) (qK d)] (.av .str (.s d)):=by
 unfold PC
 refine q6.sub (R:=fun r H'=>r=.av .str (.s d)) ?_ (fun r H' hr _=>⟨[],HSub.of_sub (List.nil_sublist _),hr,rfl⟩)
 refine zov Tryz.func87 zsn fun imm0 w0=>?_
 have h1:(bys d).take 32=bys d:=List.take_of_length_le (by simp[hd])
 have h2:=x4 d
 simp (disch:=omega) [zz,uW,h1,h2]
 intro b
 simp (disch:=omega) [zz,Tryz.f87]
end
end Go.Proofs.YtognnffjdckalaaGreatDoor
end
