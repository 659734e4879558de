/- Actions; how much an action is, and what is known. No condition beyond each theorem's own. -/
import Derived.Test.YtcgpcfcbienapaaGreatDoorBX2ToBX6
import Derived.Test.YtcgpcfcbienapaaGreatDoorK20ToBX1
import Derived.Test.YtcgpcfcbienapaaGreatDoorB0
import Derived.Test.YtcgpcfcbienapaaGreatDoorAbSToSk
import Derived.Test.YtcgpcfcbienapaaGreatDoorAbXToY
import Derived.Test.YtcgpcfcbienapaaGreatDoorP0ToP7
import Derived.Test.YtcgpcfcbienapaaGreatDoorP18ToKBs
import Derived.Test.YtcgpcfcbienapaaGreatDoorKT4ToKT5
set_option linter.unusedSimpArgs false
set_option linter.unusedVariables false
set_option linter.unusedSectionVars false
section
set_option maxRecDepth 100000
namespace Go.Proofs.YtcgpcfcbienapaaGreatDoor
open Go Go.Ab
open Classical
variable [Sel] [SelPow] [SelMax]
@[simp] theorem zpt:qZ Tryz.prog 6=true:=by kernel_rfl
@[simp] theorem zsO:z8 Tryz.prog (.func 6)=false:=q9 zpt
@[simp] theorem zpK:qZ Tryz.prog 7=true:=by kernel_rfl
@[simp] theorem ztn:z8 Tryz.prog (.func 7)=false:=q9 zpK
def zL (l:List KnV):AV:=.sl .no (l.map zH)
@[simp] theorem YO (l:List KnV):(zL l).er=zL l:=by simp[zL,AV.er,AV.ers_eq,Function.comp_def,vU]
def txW:List Txt→Nat
 | []=>0
 | x::l=>x.length+1+txW l
def enW:List (Txt × Txt)→Nat
 | []=>0
 | x::l=>x.1.length+x.2.length+1+enW l
def knW:List KnV→Nat
 | []=>0
 | x::l=>x.path.length+x.data.length+1+knW l
def vA (a:xW):Nat:=a.tool.length+(txW a.ins+txW a.asks+txW a.outs)+enW a.env
theorem zbR:∀a b:List Txt,txW (a++b)=txW a+txW b
 | [],b=>by simp[txW]
 | x::a,b=>by simp only[List.cons_append,txW,zbR a b];omega
theorem zcb:∀a b:List (Txt × Txt),enW (a++b)=enW a+enW b
 | [],b=>by simp[enW]
 | x::a,b=>by simp only[List.cons_append,enW,zcb a b];omega
theorem zc9:∀a b:List KnV,knW (a++b)=knW a+knW b
 | [],b=>by simp[knW]
 | x::a,b=>by simp only[List.cons_append,knW,zc9 a b];omega
theorem zjA (l:List Txt) (k:Nat):txW (l.take k)≤txW l:=by
 conv=>rhs;rw[←List.take_append_drop k l,zbR]
 omega
theorem zjF (l:List (Txt × Txt)) (k:Nat):enW (l.take k)≤enW l:=by
 conv=>rhs;rw[←List.take_append_drop k l,zcb]
 omega
theorem zhI (l:List KnV) (k:Nat):knW (l.take k)≤knW l:=by
 conv=>rhs;rw[←List.take_append_drop k l,zc9]
 omega
theorem WB:∀l:List Txt,l.length≤txW l
 | []=>by simp[txW]
 | x::l=>by have:=WB l;simp only[List.length_cons,txW];omega
theorem pU:∀l:List (Txt × Txt),l.length≤enW l
 | []=>by simp[enW]
 | x::l=>by have:=pU l;simp only[List.length_cons,enW];omega
theorem zbK:∀l:List KnV,l.length≤knW l
 | []=>by simp[knW]
 | x::l=>by have:=zbK l;simp only[List.length_cons,knW];omega
theorem zll {l:List Txt} {x:Txt} (h:x∈l):x.length+1≤txW l:=by
 induction l with
 | nil=>cases h
 | cons y r ih =>
  simp only[txW]
  rcases List.mem_cons.1 h with rfl|h
  ·omega
  ·have:=ih h;omega
theorem zmB {l:List (Txt × Txt)} {x:Txt × Txt} (h:x∈l):x.1.length+x.2.length+1≤enW l:=by
 induction l with
 | nil=>cases h
 | cons y r ih =>
  simp only[enW]
  rcases List.mem_cons.1 h with rfl|h
  ·omega
  ·have:=ih h;omega
theorem zfR {l:List KnV} {x:KnV} (h:x∈l):x.path.length+x.data.length+1≤knW l:=by
 induction l with
 | nil=>cases h
 | cons y r ih =>
  simp only[knW]
  rcases List.mem_cons.1 h with rfl|h
  ·omega
  ·have:=ih h;omega
theorem pZ (l:List KnV) (k:Nat) (h:k<l.length):(l.map zH)[k]?=some (zH l[k]):=KB zH l k h
theorem zjw (l:List KnV) (k:Nat) (h:k<l.length):knW (l.take (k+1))=knW (l.take k)+(l[k].path.length+l[k].data.length+1):=by
 rw[List.take_succ_eq_append_getElem h,zc9];simp only[knW];try omega
theorem zhM (l:List Txt) (k:Nat) (h:k<l.length):txW (l.take (k+1))=txW (l.take k)+(l[k].length+1):=by
 rw[List.take_succ_eq_append_getElem h,zbR];simp only[txW];try omega
theorem ziz (l:List (Txt × Txt)) (k:Nat) (h:k<l.length):enW (l.take (k+1))=enW (l.take k)+(l[k].1.length+l[k].2.length+1):=by
 rw[List.take_succ_eq_append_getElem h,zcb];simp only[enW];try omega
theorem P1 (l:List KnV) (hl:knW l≤1000000000):PC Tryz.prog 7 [.av (.slice 33) (zL l)] (.av .bool (.b (decide (5000<knW l)))):=by
 have hlen:=zbK l
 refine zow Tryz.func7 cf0 fun imm0 w0=>?_
 simp (disch:=omega) [zz,zL]
 refine AT.loop' (α:=Nat) (fun k=>St.of [(6,.av (.slice 33) (zL l)),(7,.av (.int .i64) (.i .i64 l.length)),(8,.av (.int .i64) (.i .i64 k)),(3,.av (.int .i64) (.i .i64 (knW (l.take k))))] [] (fun _=>0) [])
  (fun k=>k≤l.length) (fun k=>l.length-k) 0 ?_ ?_ ?_
 ·apply Le.of<;>simp[qU,qG,zL,knW]<;>try omega
 ·omega
 rintro k hk KL hN hE
 refine qM (cf:=cf0) laid mixed _ _ _ (by kernel_rfl) ?_
 by_cases hlt:k<l.length
 ·have hlt':(k:Int)<l.length:=by omega
  have hg:=pZ l k hlt
  have hs:=zjw l k hlt
  have ht:=zhI l (k+1)
  obtain⟨m,hm⟩:∃m,m=knW (l.take k):=⟨_,rfl⟩
  rw[←hm]at hs ⊢
  have hs':(knW (l.take (k+1)):Int)=m+(l[k].path.length+l[k].data.length+1):=by omega
  simp (disch:=omega) [zz,hlt',hg,zH,zL]
  refine hN _ (k+1) ?_ (by omega) (by omega)
  apply Le.of<;>simp[qU,qG,zL,hs']<;>try omega
 ·have hkn:k=l.length:=by omega
  subst hkn
  have hlt':¬(l.length:Int)<l.length:=by omega
  simp (disch:=omega) [zz,hlt',zL]
  refine hE _ _ (by simp) ?_
  by_cases h5:5000<knW l
  ·have h5':(5000:Int)<knW l:=by omega
   simp (disch:=omega) [zz,h5,h5',Tryz.f7]
  ·have h5':¬(5000:Int)<knW l:=by omega
   simp (disch:=omega) [zz,h5,h5',Tryz.f7]
end Go.Proofs.YtcgpcfcbienapaaGreatDoor
end
section
set_option maxRecDepth 100000
namespace Go.Proofs.YtcgpcfcbienapaaGreatDoor
open Go Go.Ab
open Classical
variable [Sel] [SelPow] [SelMax]
end Go.Proofs.YtcgpcfcbienapaaGreatDoor
end
section
set_option maxRecDepth 100000
namespace Go.Proofs.YtcgpcfcbienapaaGreatDoor
open Go Go.Ab
open Classical
variable [Sel]
def xK (en:Array MapEntry) (ids:List Nat):Array Nat:=(ids.map fun i=>(en[i]?.map (·.born)).getD 0).toArray
theorem cV {en:Array MapEntry} {ck:Nat} (hst:yX en.toList ck) {ids:List Nat} (hids:∀i∈ids,i<en.size) {i:Nat} {me:MapEntry} (hi:en[i]?=some me):me.born∈xK en ids↔i∈ids:=by
 unfold xK
 rw[List.mem_toArray,List.mem_map]
 constructor
 ·rintro⟨j,hj,e⟩
  have hjs:=hids j hj
  rw[Array.getElem?_eq_getElem hjs]at e
  simp only[Option.map_some,Option.getD_some]at e
  obtain⟨his,rfl⟩:=Array.getElem?_eq_some_iff.1 hi
  have hnd:=hst.2
  have h1:(en.toList.map (·.born))[j]'(by simpa using hjs)=(en.toList.map (·.born))[i]'(by simpa using his):=by simpa using e
  have:=(List.getElem_inj hnd).1 h1
  rw[←this];exact hj
 ·intro h
  exact⟨i,h,by rw[hi];rfl⟩
theorem zdQ (en:Array MapEntry) (ids:List Nat) {i:Nat} {me:MapEntry} (hi:en[i]?=some me):(xK en ids).push me.born=xK en (ids++[i]):=by
 unfold xK
 apply Array.toList_inj.1
 simp[hi]
def XL (ks:List (List UInt8)) (ids:List Nat):List (List UInt8):=ids.map fun i=>(ks[i]?).getD []
theorem zdP {ks:List (List UInt8)} {ids:List Nat} (hn:ids.Nodup) (hlt:∀i∈ids,i<ks.length) (hall:∀i,i<ks.length→i∈ids):(XL ks ids).Perm ks:=by
 have h1:ids.Perm (List.range ks.length):=by
  rw[List.perm_ext_iff_of_nodup hn List.nodup_range]
  intro i
  rw[List.mem_range]
  exact⟨hlt i,hall i⟩
 have h2:(List.range ks.length).map (fun i=>(ks[i]?).getD [])=ks:=by
  refine List.ext_getElem (by simp) fun t h1 h2=>?_
  simp only[List.getElem_map,List.getElem_range]
  rw[List.getElem?_eq_getElem h2];rfl
 have:=h1.map (fun i=>(ks[i]?).getD ([]:Dig))
 rw[h2]at this
 exact this
theorem gK:∀(n:Nat) (l:List Nat),l.Nodup→(∀i∈l,i<n)→l.length≤n
 | 0,l,_,h=>by
  cases l with
  | nil=>simp
  | cons x r=>exact absurd (h x (by simp)) (Nat.not_lt_zero _)
 | n+1,l,hn,h=>by
  by_cases hm:n∈l
  ·have:=gK n (l.erase n) (hn.erase n) (fun i hi=>by
    have h1:=(List.Nodup.mem_erase_iff hn).1 hi
    have:=h i h1.2
    have:=h1.1
    omega)
   rw[List.length_erase_of_mem hm]at this
   omega
  ·have:=gK n l hn (fun i hi=>by
    have h1:=h i hi
    have:i≠n:=fun e=>hm (e▸hi)
    omega)
   omega
end Go.Proofs.YtcgpcfcbienapaaGreatDoor
end
section
set_option maxRecDepth 100000
namespace Go.Proofs.YtcgpcfcbienapaaGreatDoor
open Go Go.Ab
open Classical
variable [Sel] [SelPow] [SelMax]
@[simp] theorem zoj:qZ Tryz.prog 43=true:=by kernel_rfl
@[simp] theorem zrQ:z8 Tryz.prog (.func 43)=false:=q9 zoj
@[simp] theorem zwX:qZ Tryz.prog 78=true:=by kernel_rfl
@[simp] theorem zxq:z8 Tryz.prog (.func 78)=false:=q9 zwX
abbrev WrT:TyD:=.map 9 9
noncomputable def wbO (M:Nat):HObj:=.var WrT (.map (some M))
abbrev zrZ:Cfg:=⟨fun n=>n==1,fun _=>false⟩
theorem zk4 (M:Nat):q7 Tryz.prog 43 [.av WrT (.map (some M))] [] fun r H'=>∃c,r=.av .func (.fn 78 [.ptr c WrT []])∧H'=[(c,wbO M)]:=by
 refine zov Tryz.func43 zrZ fun imm0 w0=>?_
 simp (disch:=omega) [zz]
 intro c
 simp (disch:=omega) [zz,Tryz.f43,wbO,AV.ers]
set_option maxHeartbeats 4000000 in
theorem zeT {G:List Txt→q8→Prop} (y c M:Nat) (hcM:c≠M) (l:List (Txt × Txt)) (en:Array MapEntry) (ck:Nat) (i0:Nat→Nat) (w1:World) (hop:gM Tryz.prog 9 9 (wrE l) en ck i0 w1)
  (hGe:∀done H,G done H→H.er=H)
  (hY:∀done (k:Txt) H,k∈l.map (·.1)→done.length<l.length→G done H→YC Tryz.prog y [.av .str (.s k)] H fun r H'=>r=.av .bool (.b true)∧G (done++[k]) H') :
  ∀H,G [] H→q7 Tryz.prog 78 [.av .func (.yl y),.av .ptr (.ptr c WrT [])] ((c,wbO M)::(M,.raw (.map en ck) i0 w1)::H)
   fun r H'=>r=.tup []∧∃done H1 it o,done.Perm (l.map (·.1))∧G done H1∧H'=(it,o)::(c,wbO M)::(M,.raw (.map en ck) i0 w1)::H1:=by
 intro H hG
 have hMc:¬M=c:=fun e=>hcM e.symm
 refine zov Tryz.func78 cf0 fun imm0 w0=>?_
 simp (disch:=omega) [zz,wbO,hcM,hMc]
 intro it hit hiM _
 have hit':¬c=it:=fun e=>hit e.symm
 have hiM':¬M=it:=fun e=>hiM e.symm
 have hsz:en.size=l.length:=by have:=p5 hop.ents;simpa[wrE]using this.symm
 refine AT.loop' (α:=List Nat × q8) (fun p=>St.of [(0,.av .func (.yl y)),(1,.av .ptr (.ptr c WrT [])),(5,.av .ptr (.ptr it .other []))] [] (fun _=>0) ((it,.raw (.mapIter (some M) ck (xK en p.1) ck) (fun _=>0) default)::(c,wbO M)::(M,.raw (.map en ck) i0 w1)::p.2))
  (fun p=>p.1.Nodup∧(∀i∈p.1,i<en.size)∧G (XL (l.map (·.1)) p.1) p.2) (fun p=>en.size-p.1.length) ([],H) ?_ ?_ ?_
 ·apply Le.of<;>simp[qU,qG,wbO,xK]<;>try omega
 ·exact⟨List.nodup_nil,by simp,hG⟩
 rintro⟨ids,H1⟩ ⟨hnd,hlt,hG1⟩ KL hN hE
 simp only at hnd hlt hG1
 refine qM (cf:=cf0) laid mixed _ _ _ (by kernel_rfl) ?_
 simp (disch:=omega) [zz,wbO,hit,hiM,hit',hiM',hcM,hMc,zeg]
 refine⟨9,9,wrE l,hop,fun hall=>?_,fun i me u v hi hns hes=>?_⟩
 ·refine hE _ _ (by simp) ?_
  have hperm:(XL (l.map (·.1)) ids).Perm (l.map (·.1)):=by
   refine zdP hnd (fun i hi=>by have:=hlt i hi;simpa[hsz]using this) fun i hi=>?_
   have hi':i<en.size:=by simpa[hsz]using hi
   exact(cV hop.st hlt (Array.getElem?_eq_getElem hi')).1 (hall i _ (Array.getElem?_eq_getElem hi'))
  have hH:=hGe _ _ hG1
  simp (disch:=omega) [zz,Tryz.f78,hH,HObj.er]
  exact⟨_,hperm,hG1⟩
 ·have hil:i<en.size:=(Array.getElem?_eq_some_iff.1 hi).1
  have hni:i∉ids:=fun h=>hns ((cV hop.st hlt hi).2 h)
  have hic:i<l.length:=by omega
  have hu:u=AV.s l[i].1:=by
   simp only[wrE]at hes
   rw[List.getElem?_map,List.getElem?_eq_getElem hic]at hes
   have:=Option.some.inj hes
   exact(congrArg Prod.fst this).symm
  subst hu
  rw[zdQ en ids hi]
  refine⟨9,9,wrE l,hop,i,me,hi,AV.s l[i].1,v,hes,rfl,?_⟩
  simp (disch:=omega) [zz]
  have hkm:l[i].1∈l.map (·.1):=List.mem_map.2 ⟨l[i],List.getElem_mem hic,rfl⟩
  have hGn:XL (l.map (·.1)) (ids++[i])=XL (l.map (·.1)) ids++[l[i].1]:=by
   simp[XL,List.getElem?_eq_getElem hic]
  have hnd2:(ids++[i]).Nodup:=List.nodup_append.2 ⟨hnd,by simp,fun a ha b hb e=>by simp only[List.mem_singleton]at hb;subst hb;exact hni (e▸ha)⟩
  have hlt2:∀k∈ids++[i],k<en.size:=fun k hk=>by
   rcases List.mem_append.1 hk with h|h
   ·exact hlt k h
   ·simp only[List.mem_singleton]at h;omega
  have hle2:=gK en.size _ hnd2 hlt2
  refine JY (R:=fun r H'=>r=.av .bool (.b true)∧G (XL (l.map (·.1)) (ids++[i])) H') H1 [(it,.raw (.mapIter (some M) ck (xK en (ids++[i])) ck) (fun _=>0) default),(c,wbO M),(M,.raw (.map en ck) i0 w1)] (List.perm_append_comm (l₁:=[_,_,_])) (by simp[qQ]) ?_ ?_
  ·rw[hGe _ _ hG1,hGn]
   have:=hY _ _ _ hkm (by simp only[XL,List.length_map];simp at hle2;omega) hG1
   simpa[TV.er]using this
  rintro r H2 ⟨rfl,hG2⟩ _
  refine⟨(it,.raw (.mapIter (some M) ck (xK en (ids++[i])) ck) (fun _=>0) default)::(c,wbO M)::(M,.raw (.map en ck) i0 w1)::H2,HSub.of_perm (List.perm_append_comm (l₂:=[_,_,_])),?_⟩
  simp (disch:=omega) [zz]
  refine hN _ (ids++[i],H2) ?_ ⟨hnd2,hlt2,hG2⟩ (by simp at hle2 ⊢;omega)
  apply Le.of<;>simp[qU,qG,wbO]<;>try omega
theorem zgY {G:List Txt→q8→Prop} (y c M:Nat) (hcM:c≠M) (l:List (Txt × Txt)) (hGe:∀done H,G done H→H.er=H)
  (hY:∀done (k:Txt) H,k∈l.map (·.1)→done.length<l.length→G done H→YC Tryz.prog y [.av .str (.s k)] H fun r H'=>r=.av .bool (.b true)∧G (done++[k]) H') (H:q8) (hG:G [] H) :
  q7 Tryz.prog 78 [.av .func (.yl y),.av .ptr (.ptr c WrT [])] ((M,wrO l)::(c,wbO M)::H)
   fun r H'=>r=.tup []∧∃done H1,done.Perm (l.map (·.1))∧G done H1∧H'=(M,wrO l)::(c,wbO M)::H1:=by
 refine q7.openMap fun en ck i0 w1 hop=>?_
 refine q7.conv (R:=fun r H'=>r=.tup []∧∃done H1,done.Perm (l.map (·.1))∧G done H1∧H'=(M,.raw (.map en ck) i0 w1)::(c,wbO M)::H1) ?_ ?_
 ·refine q7.sub (((zeT y c M hcM l en ck i0 w1 hop hGe hY H hG)).perm (List.Perm.swap _ _ _)) ?_
  rintro r H' ⟨rfl,done,H1,it,o,hp,hg,rfl⟩ _
  exact⟨_,⟨_,List.Perm.cons _ (List.Perm.swap _ _ _),(List.Sublist.refl _).cons _⟩,rfl,done,H1,hp,hg,rfl⟩
 ·rintro r H' ⟨rfl,done,H1,hp,hg,rfl⟩
  exact⟨(M,wrO l)::(c,wbO M)::H1,fun b hb=>hb,fun imm w h=>h.shutMap hop,rfl,done,H1,hp,hg,rfl⟩
end Go.Proofs.YtcgpcfcbienapaaGreatDoor
end
section
set_option maxRecDepth 100000
namespace Go.Proofs.YtcgpcfcbienapaaGreatDoor
open Go Go.Ab
open Classical
variable [Sel]
theorem q7.argNil {P:Program} {f:FuncId} {e:TypeId} {args:List TV} {H:q8} {R:TV→q8→Prop} (h:q7 P f (.av (.slice e) .nsl::args) H R):q7 P f (.cst (.slice none 0 0)::args) H R:=by
 intro imm w vs h1 h2
 refine h imm w vs h1 ?_
 obtain⟨vs⟩:=vs
 match vs,h2 with
 | v::r,⟨e1,e2⟩ =>
  have e1':v=.slice none 0 0:=e1
  subst e1'
  exact⟨⟨rfl,by simp[VC,Value.cells]⟩,e2⟩
theorem q7.nilR {P:Program} {f:FuncId} {args:List TV} {H:q8} {R R':TV→q8→Prop} (h:q7 P f args H R) (hr:∀r H',R r H'→R' r H'∨∃e,r=.av (.slice e) .nsl∧R' (.av (.slice e) (.sl .no [])) H'):q7 P f args H R' :=
 fun imm w vs h1 h2=>(h imm w vs h1 h2).mono fun e w' ⟨v,r,imm',H',a,b,c,d,st⟩=>by
  rcases hr _ _ b with h3|⟨e,rfl,h3⟩
  ·exact⟨v,r,imm',H',a,h3,c,d,st⟩
  ·obtain⟨f,hv⟩:=c
   simp only[VC]at hv
   obtain⟨_,_,hv⟩:=hv
   exact⟨v,_,imm',H',a,h3,⟨f,by simp only[VC];exact⟨e,none,0,rfl,hv,by simp,by simp[U9]⟩⟩,d,st⟩
end Go.Proofs.YtcgpcfcbienapaaGreatDoor
end
section
set_option maxRecDepth 100000
namespace Go.Proofs.YtcgpcfcbienapaaGreatDoor
open Go Go.Ab
open Classical
variable [Sel] [SelPow] [SelMax]
theorem q7.argNsl {P:Program} {f:FuncId} {e:TypeId} {args:List TV} {H:q8} {R:TV→q8→Prop} (h:q7 P f (.av (.slice e) (.sl .no [])::args) H R):q7 P f (.av (.slice e) .nsl::args) H R:=by
 intro imm w vs h1 h2
 refine h imm w vs h1 ?_
 obtain⟨vs⟩:=vs
 match vs,h2 with
 | v::r,⟨⟨f1,hv⟩,e2⟩ =>
  simp only[VC]at hv
  obtain⟨_,_,hv⟩:=hv
  exact⟨⟨f1,by simp only[VC];exact⟨e,none,0,rfl,hv,by simp,by simp[U9]⟩⟩,e2⟩
theorem zgp (l:List Txt):JK (strs l):=by
 unfold JK;simp[AV.erks_eq,strs,Function.comp_def,AV.er,AV.erk]
theorem zmZ (n:Nat):JK (List.replicate n (AV.s [])):=JK.rep rfl _
@[simp] theorem zmQ:qZ Tryz.prog 114=true:=by kernel_rfl
@[simp] theorem zqv:z8 Tryz.prog (.func 114)=false:=q9 zmQ
@[simp] theorem zwM:qZ Tryz.prog 76=true:=by kernel_rfl
@[simp] theorem zxe:z8 Tryz.prog (.func 76)=false:=q9 zwM
abbrev TxS:TyD:=.slice 9
def wG (y b2:Nat) (done:List Txt) (H:q8):Prop :=
 (done=[]∧H=[(b2,.var TxS .nsl)])∨∃b cap j,JK j∧b≠b2∧b≠y∧done.length+j.length=cap∧H=[(b2,.var TxS (.msl b 9 0 done.length cap)),(b,wY cap done j)]
def wR (ks:List Txt) (rest:q8) (r:TV) (H':q8):Prop :=
 ∃done,done.Perm ks∧((done=[]∧r=.av TxS .nsl∧H'=rest)∨∃b cap j,JK j∧done.length+j.length=cap∧r=.av TxS (.msl b 9 0 done.length cap)∧H'=(b,wY cap done j)::rest)
theorem zpj {y b2:Nat} {done:List Txt} {H:q8} (h:wG y b2 done H):H.er=H:=by
 rcases h with⟨_,rfl⟩|⟨b,cap,j,hj,_,_,_,rfl⟩
 ·rfl
 ·rw[q8.er_cons,q8.er_cons,KE hj];rfl
def zzE (g c:Nat) (T:TyD) (HS:q8) (ks:List Txt):Prop:=qZ Tryz.prog g=true∧HS.er=HS∧∀(G:List Txt→q8→Prop) (y:Nat),(∀done H,G done H→H.er=H)→
  (∀done (k:Txt) H,done.length<ks.length→G done H→YC Tryz.prog y [.av .str (.s k)] H fun r H'=>r=.av .bool (.b true)∧G (done++[k]) H')→
  ∀H,G [] H→q7 Tryz.prog g [.av .func (.yl y),.av .ptr (.ptr c T [])] (HS++H) fun r H'=>r=.tup []∧∃done H1,done.Perm ks∧G done H1∧H'=HS++H1
theorem zz8 (c M:Nat) (hcM:c≠M) (l:List (Txt × Txt)):zzE 78 c WrT [(M,wrO l),(c,wbO M)] (l.map (·.1)) :=
 ⟨by simp,by have:=QZ l;simp only[q8.er_cons,q8.er_nil,this];rfl,fun G y hGe hY H hG=>zgY y c M hcM l hGe (fun done k H _ h2 h3=>hY done k H (by simpa using h2) h3) H hG⟩
abbrev znx:Cfg:=⟨fun n=>n==2,fun _=>false⟩
set_option maxHeartbeats 8000000 in
theorem CB {g c:Nat} {T:TyD} {HS:q8} {ks:List Txt} (hs:zzE g c T HS ks) (hlen:ks.length≤1000000) :
  q7 Tryz.prog 114 [.av TxS .nsl,.av .func (.fn g [.ptr c T []])] HS (wR ks HS):=by
 obtain⟨hfo,hse,hsf⟩:=hs
 refine q7.sub (R:=fun r H'=>∃H2,Ab.HSub H2 H'∧wR ks HS r H2) ?_ fun r H' ⟨H2,h1,h2⟩ _=>⟨H2,h1,h2⟩
 refine zov Tryz.func114 znx fun imm0 w0=>?_
 simp (disch:=omega) [zz]
 intro b2 hb2
 refine AT.range (gf:=g) rfl rfl rfl (by simp[hfo]) ?_
 intro y D r i0 w1 hy hrec hready hpend hpar has hbo
 simp at hy
 obtain⟨hy2,hyS⟩:=hy
 have hy2':¬b2=y:=fun e=>hy2 e.symm
 refine⟨HS++[(y,.lrec r i0 w1),(b2,.var TxS .nsl)],[],fun t H'=>t=.tup []∧∃done H1,done.Perm ks∧(∃H2,H1=(y,.lrec r i0 w1)::H2∧wG y b2 done H2)∧H'=HS++H1,?_,?_,?_⟩
 ·rw[List.append_nil]
  exact List.perm_append_comm (l₁:=[_,_])
 ·rw[q8.er_app,hse]
  refine hsf (fun done H=>∃H2,H=(y,.lrec r i0 w1)::H2∧wG y b2 done H2) y ?_ ?_ _ ⟨_,rfl,.inl ⟨rfl,rfl⟩⟩
  ·rintro done H ⟨H2,rfl,hg⟩
   rw[q8.er_cons,zpj hg];rfl
  ·rintro done k H hdl ⟨H2,rfl,hg⟩
   have hrd:=YC.of_round (l:=y) hrec hready (args:=[.av .str (.s k)]) (H:=H2) (R:=fun rr H'=>rr=.av .bool (.b true)∧∃H3,Ab.HSub ((y,.lrec r i0 w1)::H3) H'∧wG y b2 (done++[k]) H3) (by rw[hpar];rfl) (by rw[hpar];simp) (fun imm w=>?_)
   ·exact zeS hrd fun rr H' ⟨e1,H3,e2,e3⟩ _=>⟨_,e2,e1,H3,rfl,e3⟩
   rw[has,hbo,hpar]
   refine qM (cf:=znx) laid mixed _ _ _ (by kernel_rfl) ?_
   simp (disch:=omega) [zz,QW,yL,vS]
   refine qM (cf:=znx) laid mixed _ _ _ (by kernel_rfl) ?_
   have hrl:∀(p:Array Nat) (a b:Code),p=r.params→a=r.assign→b=r.body→({ state:=.ready,pending:=none,fn:=r.fn,tmps:=r.tmps,params:=p,assign:=a,body:=b,defers:=r.defers }:Loop)=r:=by
    rintro _ _ _ rfl rfl rfl;exact u7 hready hpend
   have her:∀r',(HObj.lrec r' i0 w1).er=HObj.lrec r' i0 w1:=fun _=>rfl
   rcases hg with⟨rfl,rfl⟩|⟨b,cap,j,hj,hbb,hby,hcap,rfl⟩
   ·simp (disch:=omega) [zz,hy2,hy2']
    intro b' cap' hb1 hb2 hc
    have hb1':¬y=b':=fun e=>hb1 e.symm
    have hb2':¬b2=b':=fun e=>hb2 e.symm
    simp (disch:=omega) [zz,hy2,hy2',hb1,hb2,hb1',hb2',WR,uV]
    rw[her,hrl _ _ _ hpar.symm has.symm hbo.symm]
    refine⟨[(b2,.var TxS (.msl b' 9 0 1 cap')),(b',wY cap' [k] (List.replicate (cap'-1) (AV.s [])))],HSub.of_perm ?_,.inr ⟨b',cap',_,JK.rep rfl _,hb2,hb1,by simp;omega,rfl⟩⟩
    have:=zmZ (cap'-1)
    unfold JK at this
    rw[this]
    exact List.perm_append_comm (l₁:=[_]) (l₂:=[_,_])
   ·have hbb':¬b2=b:=fun e=>hbb e.symm
    have hby':¬y=b:=fun e=>hby e.symm
    simp (disch:=omega) [zz,hy2,hy2',hbb,hbb',hby,hby',wY]
    refine⟨by omega,⟨by omega,by omega⟩,fun hc=>?_,fun hc b' cap' hb1 hb2 hb3 hc'=>?_⟩
    ·simp (disch:=omega) [zz,hy2,hy2',hbb,hbb',hby,hby',WR,uV]
     rw[her,hrl _ _ _ hpar.symm has.symm hbo.symm]
     have h2:(strs done++j).take done.length++AV.s k::(strs done++j).drop (done.length+1)=strs (done++[k])++j.drop 1:=by
      have e1:(strs done++j).take done.length=strs done:=by rw[List.take_append_of_le_length (by simp)];exact List.take_of_length_le (by simp)
      have e2:(strs done++j).drop (done.length+1)=j.drop 1:=by
       rw[List.drop_append,List.drop_of_length_le (by simp)];simp
      rw[e1,e2];simp only[Z6,List.append_assoc];rfl
     have h3:=(zgp (done++[k])).app (hj.drop 1)
     unfold JK at h3
     rw[h2,h3]
     refine⟨[(b2,.var TxS (.msl b 9 0 (done.length+1) cap)),(b,wY cap (done++[k]) (j.drop 1))],HSub.refl _,.inr ⟨b,cap,_,hj.drop 1,hbb,hby,by simp;omega,by simp⟩⟩
    ·have hb1':¬y=b':=fun e=>hb1 e.symm
     have hb2':¬b2=b':=fun e=>hb2 e.symm
     have hb3':¬b=b':=fun e=>hb3 e.symm
     simp (disch:=omega) [zz,hy2,hy2',hbb,hbb',hby,hby',hb1,hb2,hb3,hb1',hb2',hb3',WR,uV]
     rw[her,hrl _ _ _ hpar.symm has.symm hbo.symm]
     have h2:(strs done++j).take done.length++AV.s k::List.replicate (cap'-(done.length+1)) (AV.s [])=strs (done++[k])++List.replicate (cap'-(done.length+1)) (AV.s []):=by
      have e1:(strs done++j).take done.length=strs done:=by rw[List.take_append_of_le_length (by simp)];exact List.take_of_length_le (by simp)
      rw[e1];simp only[Z6,List.append_assoc];rfl
     have h3:=(zgp (done++[k])).app (zmZ (cap'-(done.length+1)))
     unfold JK at h3
     rw[h2,h3]
     refine⟨[(b2,.var TxS (.msl b' 9 0 (done.length+1) cap')),(b',wY cap' (done++[k]) (List.replicate (cap'-(done.length+1)) (AV.s [])))],⟨_,List.perm_append_comm (l₁:=[_]) (l₂:=[_,_,_]),?_⟩,.inr ⟨b',cap',List.replicate (cap'-(done.length+1)) (AV.s []),JK.rep rfl _,hb2,hb1,by simp;omega,by simp⟩⟩
     exact((((List.nil_sublist _).cons_cons _).cons _).cons_cons _).cons_cons _
 ·rintro t H' ⟨rfl,done,H1,hp,⟨H2,rfl,hg⟩,rfl⟩ hnd
  refine⟨r,H2++HS,HSub.of_perm (by rw[List.append_nil];exact List.perm_append_comm (l₂:=_::_)),by rw[hready];simp,?_⟩
  rw[hpend]
  rcases hg with⟨rfl,rfl⟩|⟨b,cap,j,hj,hbb,hby,hcap,rfl⟩
  ·simp (disch:=omega) [zz,PR,hse,Tryz.f114]
   exact⟨HS,HSub.of_sub ((List.Sublist.refl _).cons _),[],hp,.inl ⟨rfl,rfl,rfl⟩⟩
  ·have hkr:=KE (cap:=cap) (ts:=done) hj
   simp (disch:=omega) [zz,PR,hse,hkr,Tryz.f114]
   exact⟨(b,wY cap done j)::HS,HSub.of_sub ((List.Sublist.refl _).cons _),done,hp,.inr ⟨b,cap,j,hj,hcap,rfl,rfl⟩⟩
theorem ze2 {g c:Nat} {T:TyD} {HS:q8} {ks:List Txt} (hs:zzE g c T HS ks) (hlen:ks.length≤1000000) :
  q7 Tryz.prog 76 [.av .func (.fn g [.ptr c T []])] HS (wR ks HS):=by
 have hse:=hs.2.1
 refine zov Tryz.func76 cf0 fun imm0 w0=>?_
 simp (disch:=omega) [zz]
 refine jP (R:=wR ks HS) rfl (by simp[qQ]) (by simp) ?_ ?_
 ·have:=q7.argNil (CB hs hlen)
  simpa[TV.er,AV.er,AV.ers,hse]using this
 rintro r' H' ⟨done,hp,⟨rfl,rfl,rfl⟩|⟨b,cap,j,hj,hcap,rfl,rfl⟩⟩
 ·simp (disch:=omega) [zz,hse,Tryz.f76]
  exact⟨[],hp,.inl ⟨rfl,rfl,rfl⟩⟩
 ·have hkr:=KE (cap:=cap) (ts:=done) hj
  simp (disch:=omega) [zz,hse,hkr,Tryz.f76]
  exact⟨done,hp,.inr ⟨b,cap,j,hj,hcap,rfl,rfl⟩⟩
@[simp] theorem zoc:qZ Tryz.prog 42=true:=by kernel_rfl
@[simp] theorem zsa:z8 Tryz.prog (.func 42)=false:=q9 zoc
def wS (ks:List Txt) (rest:q8) (r:TV) (H':q8):Prop:=∃v H1,r=.av TxS v∧KF (kK ks) v H1∧H'=H1++rest
theorem Y2 {a b:List Txt} (h:a.Perm b):kK a=kK b:=by
 unfold kK
 have h1:=List.pairwise_mergeSort (le:=fun(a b:Txt)=>decide (a≤b)) (fun a b c h1 h2=>by simp only[decide_eq_true_eq]at *;exact List.le_trans h1 h2) (fun a b=>by simp only[Bool.or_eq_true,decide_eq_true_eq];exact List.le_total a b) a
 have h2:=List.pairwise_mergeSort (le:=fun(a b:Txt)=>decide (a≤b)) (fun a b c h1 h2=>by simp only[decide_eq_true_eq]at *;exact List.le_trans h1 h2) (fun a b=>by simp only[Bool.or_eq_true,decide_eq_true_eq];exact List.le_total a b) b
 refine List.Perm.eq_of_pairwise (fun x y _ _ h3 h4=>?_) h1 h2 ((List.mergeSort_perm _ _).trans (h.trans (List.mergeSort_perm _ _).symm))
 simp only[decide_eq_true_eq]at h3 h4
 exact List.le_antisymm h3 h4
theorem ze9 {g c:Nat} {T:TyD} {HS:q8} {ks:List Txt} (hs:zzE g c T HS ks) (hlen:ks.length≤1000000) :
  q7 Tryz.prog 42 [.av .func (.fn g [.ptr c T []])] HS (wS ks HS):=by
 have hse:=hs.2.1
 refine q7.nilR (R:=fun r H'=>(ks=[]∧r=.av TxS .nsl∧H'=HS)∨wS ks HS r H') ?_ ?_
 rotate_left
 ·rintro r H' (⟨e,rfl,rfl⟩|h)
  ·exact .inr ⟨_,rfl,_,[],rfl,.inl ⟨by rw[e];simp[kK],rfl,rfl⟩,rfl⟩
  ·exact .inl h
 refine zov Tryz.func42 cf0 fun imm0 w0=>?_
 simp (disch:=omega) [zz]
 refine jP (R:=wR ks HS) rfl (by simp[qQ]) (by simp) ?_ ?_
 ·have:=ze2 hs hlen
  simpa[TV.er,AV.er,AV.ers,hse]using this
 rintro r' H0 ⟨done,hp,⟨rfl,rfl,rfl⟩|⟨b,cap,j,hj,hcap,rfl,rfl⟩⟩
 ·simp (disch:=omega) [zz]
  refine qE (R:=fun r H'=>r=.tup []∧H'=[]) [] H0 (List.Perm.refl _) rfl (by simp[qQ]) (by simp) ?_ ?_
  ·have:=q7.argNsl dQ
   simpa[TV.er,AV.er,AV.ers,q8.er_nil]using this
  rintro r' H' ⟨rfl,rfl⟩ _
  refine⟨_,HSub.refl _,?_⟩
  simp (disch:=omega) [zz,hse,Tryz.f42]
  have hnl:ks=[]:=List.nil_perm.1 hp
  subst hnl
  first|exact .inl rfl|exact .inl ⟨rfl,rfl⟩
 ·have hkr:=fun ts=>KE (cap:=cap) (ts:=ts) hj
  have hdl:done.length≤1000000:=by rw[hp.length_eq];exact hlen
  simp (disch:=omega) [zz]
  refine qE (R:=fun r H'=>r=.tup []∧H'=[(b,wY cap (kK done) j)]) [(b,wY cap done j)] HS (List.Perm.refl _) rfl (by simp[qQ]) (by simp) ?_ ?_
  ·have:=zaG done b cap j hcap (by omega)
   have e:q8.er [(b,wY cap done j)]=[(b,wY cap done j)]:=by rw[q8.er_cons,hkr];rfl
   rw[e]
   simpa[TV.er,AV.er,AV.ers,wY]using this
  rintro r' H' ⟨rfl,rfl⟩ _
  refine⟨_,HSub.refl _,?_⟩
  have hks:=hkr (kK done)
  simp (disch:=omega) [zz,hse,hks,Tryz.f42]
  refine⟨_,_,rfl,.inr ⟨b,cap,j,hj,?_,?_,rfl⟩,?_⟩
  ·rw[←Y2 hp,ZO]
  ·rw[←Y2 hp,ZO];exact hcap
  ·rw[Y2 hp];rfl
end Go.Proofs.YtcgpcfcbienapaaGreatDoor
end
section
set_option maxRecDepth 100000
namespace Go.Proofs.YtcgpcfcbienapaaGreatDoor
open Go Go.Ab
open Classical
variable [Sel]
@[simp] theorem znO:qZ Tryz.prog 92=true:=by kernel_rfl
@[simp] theorem zrl:z8 Tryz.prog (.func 92)=false:=q9 znO
def wX (b:List UInt8) (k:Nat):List UInt32:=Q1 b (k / 4)++(if k % 4=0 then [] else [match k % 4 with
 | 1=>b.getD (4*(k/4)) 0 |>.toUInt32
 | 2=>((b.getD (4*(k/4)) 0).toUInt32 <<< 8) ||| (b.getD (4*(k/4)+1) 0).toUInt32
 | _=>(((b.getD (4*(k/4)) 0).toUInt32 <<< 8) ||| (b.getD (4*(k/4)+1) 0).toUInt32) <<< 8 ||| (b.getD (4*(k/4)+2) 0).toUInt32])
def QI (w:List UInt32):List UInt32:=w++List.replicate (64-w.length) 0
theorem zaq {w:List UInt32} (h:w.length≤64):(QI w).length=64:=by simp[QI];omega
theorem CC (b:List UInt8):QI (wX b 0)=List.replicate 64 0:=by simp[wX,Q1,QI]
theorem CH (b:List UInt8) (k:Nat) (h:k<64):QI (wX b (k+1))=(QI (wX b k)).set (k/4) (((QI (wX b k)).getD (k/4) 0 <<< 8) ||| (b.getD k 0).toUInt32):=by
 obtain⟨q,r,rfl,hr⟩:∃q r,k=4*q+r∧r<4:=⟨k/4,k%4,by omega,by omega⟩
 have hq:(4*q+r)/4=q:=by omega
 have hm:(4*q+r)%4=r:=by omega
 have hlen:=YM b q
 have hrep:List.replicate (64-q) (0:UInt32)=0::List.replicate (64-(q+1)) 0:=by
  rw[show 64-q=(64-(q+1))+1 by omega,List.replicate_succ]
 rcases(by omega:r=0∨r=1∨r=2∨r=3)with rfl|rfl|rfl|rfl
 ·have h1:(4*q+0+1)/4=q:=by omega
  have h2:(4*q+0+1)%4=1:=by omega
  simp only[wX,hq,hm,h1,h2,QI,hlen,if_true,List.append_nil]
  simp[hlen,hrep,List.getElem?_append_right,List.set_append_right]
 ·have h1:(4*q+1+1)/4=q:=by omega
  have h2:(4*q+1+1)%4=2:=by omega
  simp only[wX,hq,hm,h1,h2,QI,hlen]
  simp[hlen,List.getElem?_append_right,List.set_append_right]
 ·have h1:(4*q+2+1)/4=q:=by omega
  have h2:(4*q+2+1)%4=3:=by omega
  simp only[wX,hq,hm,h1,h2,QI,hlen]
  simp[hlen,List.getElem?_append_right,List.set_append_right]
 ·have h1:(4*q+3+1)/4=q+1:=by omega
  have h2:(4*q+3+1)%4=0:=by omega
  have hw:=zbC (b.getD (4*q) 0) (b.getD (4*q+1) 0) (b.getD (4*q+2) 0) (b.getD (4*q+3) 0)
  simp only[UInt32.zero_shiftLeft,UInt32.zero_or]at hw
  simp only[wX,hq,hm,h1,h2,QI,hlen,Q1,if_pos (show q<16 by omega),zhT]
  simp[hlen,List.getElem?_append_right,List.set_append_right]
  simp only[List.getD_eq_getElem?_getD]at hw
  exact hw.symm
theorem zEu (b:List UInt8):wX b 64=Q1 b 16:=by simp[wX]
theorem zdV (b:List UInt8) (k:Nat) (h:k<64) (h16:16≤k):QI (Q1 b (k+1))=(QI (Q1 b k)).set k (zgk (Q1 b k)):=by
 have hlen:=YM b k
 have hrep:List.replicate (64-k) (0:UInt32)=0::List.replicate (64-(k+1)) 0:=by
  rw[show 64-k=(64-(k+1))+1 by omega,List.replicate_succ]
 simp only[QI,Q1,hlen,if_neg (show ¬k<16 by omega)]
 simp[hlen,hrep,List.set_append_right]
abbrev znG:Cfg:=⟨fun _=>false,fun n=>n==72⟩
theorem zox:w6 0=.i .u32 0:=rfl
set_option maxHeartbeats 4000000 in
theorem zau (b:List UInt8) (hb:b.length=64) :
  PC Tryz.prog 92 [.av (.slice 5) (X1 b)] (.av (.arr 64 122) (.agg ((Q1 b 64).map w6))):=by
 have hbe:X1 b=.sl .no (b.map fun b=>.i .u8 b.toNat):=rfl
 refine zow Tryz.func92 znG fun imm0 w0=>?_
 simp (disch:=omega) [zz,hbe,hb]
 refine AT.loopV (α:=Nat) (fun k ver=>St.of [(2,.loc 2 []),(3,.loc 3 []),(11,.av (.slice 5) (X1 b)),(12,.av (.int .i64) (.i .i64 64)),(13,.av (.int .i64) (.i .i64 k))] [(2,(.arr 64 122,.agg (List.replicate 64 (.i .u32 0)))),(3,(.arr 64 122,.agg ((QI (wX b k)).map w6)))] ver [])
  (fun k=>k≤64) (fun k=>64-k) 0 ?_ ?_ ?_
 ·apply Le.of<;>simp[qU,qG,qO,qH,qP,qK,qF,qI,qJ,qN,CC,zox,hbe]<;>try omega
 ·simp
 ·rintro k ver hk KL hN hE
  refine qM (cf:=znG) laid mixed _ _ _ (by kernel_rfl) ?_
  by_cases hlt:k<64
  ·have hlt':(k:Int)<64:=by omega
   obtain⟨q,hq⟩:∃q:Nat,k / 4=q:=⟨_,rfl⟩
   have hq':(k:Int).tdiv 4=(q:Int):=by rw[Int.tdiv_eq_ediv_of_nonneg (by omega)];omega
   have hst:=CH b k hlt
   obtain⟨W,hW⟩:∃W,QI (wX b k)=W:=⟨_,rfl⟩
   have hWl:W.length=64:=by rw[←hW];exact zaq (by simp[wX];split<;>simp<;>omega)
   obtain⟨x,hx⟩:∃x,W[q]?=some x:=⟨_,List.getElem?_eq_getElem (by omega)⟩
   obtain⟨y,hy⟩:∃x,b[k]?=some x:=⟨_,List.getElem?_eq_getElem (by omega)⟩
   have gx:∀g:q<W.length,W[q]=x:=fun g=>by rw[List.getElem?_eq_getElem g]at hx;simpa using hx
   have gy:∀g:k<b.length,b[k]=y:=fun g=>by rw[List.getElem?_eq_getElem g]at hy;simpa using hy
   rw[hW,hq,List.getD_eq_getElem?_getD,List.getD_eq_getElem?_getD,hx,hy]at hst
   have hs8:=zp0 x (show 8<32 by omega)
   have hst':(QI (wX b (k+1))).map w6=(W.map w6).set q (w6 (x <<< UInt32.ofNat 8 ||| y.toUInt32)):=by rw[hst,List.map_set];rfl
   simp (disch:=omega) [zz,hlt',hq',hbe,hW,gx,gy,hs8,zoV,wor,-BitVec.toNat_or]
   (repeat with_reducible refine om ?_)
   refine hN _ (k+1) ?_ (by first|omega|(simp;done)|(simp;omega)) (by first|omega|(simp;done)|(simp;omega));apply Le.of<;>simp[qU,qG,qO,qH,qP,qK,qF,qI,qJ,qN,hst',hbe]<;>try omega
  ·obtain rfl:k=64:=by omega
   simp (disch:=omega) [zz]
   refine hE _ _ (by simp) ?_
   simp (disch:=omega) [zz]
   refine AT.loopV (α:=Nat) (fun k ver=>St.of [(2,.loc 2 []),(3,.loc 3 []),(6,.av (.int .i64) (.i .i64 k))] [(2,(.arr 64 122,.agg (List.replicate 64 (.i .u32 0)))),(3,(.arr 64 122,.agg ((QI (Q1 b k)).map w6)))] ver [])
    (fun k=>16≤k∧k≤64) (fun k=>64-k) 16 ?_ ?_ ?_
   ·apply Le.of<;>simp[qU,qG,qO,qH,qP,qK,qF,qI,qJ,qN,zEu]<;>try omega
   ·simp
   ·rintro k ver2 ⟨h16,hk⟩ KL2 hN2 hE2
    refine qM (cf:=znG) laid mixed _ _ _ (by kernel_rfl) ?_
    by_cases hkt:k<64
    ·obtain⟨m,rfl⟩:∃m,k=m+16:=⟨k-16,by omega⟩
     have hfs:=zdV b (m+16) hkt h16
     have hWl:=YM b (m+16)
     have hk':(m:Int)+16<64:=by omega
     obtain⟨W,hW⟩:∃W,Q1 b (m+16)=W:=⟨_,rfl⟩
     rw[hW]at hfs hWl
     obtain⟨F,hF⟩:∃F,QI W=F:=⟨_,rfl⟩
     have hFl:F.length=64:=by rw[←hF];exact zaq (by omega)
     have jM:∀i,i<m+16→F[i]?=W[i]?:=fun i hi=>by rw[←hF,QI,List.getElem?_append_left (by omega)]
     obtain⟨x16,h16e⟩:∃x,W[m]?=some x:=⟨_,List.getElem?_eq_getElem (by omega)⟩
     obtain⟨x15,h15e⟩:∃x,W[m+1]?=some x:=⟨_,List.getElem?_eq_getElem (by omega)⟩
     obtain⟨x7,h7e⟩:∃x,W[m+9]?=some x:=⟨_,List.getElem?_eq_getElem (by omega)⟩
     obtain⟨x2,h2e⟩:∃x,W[m+14]?=some x:=⟨_,List.getElem?_eq_getElem (by omega)⟩
     have g16:∀h:m<F.length,F[m]=x16:=fun h=>by have:=(jM m (by omega)).trans h16e;rw[List.getElem?_eq_getElem h]at this;simpa using this
     have g15:∀h:m+1<F.length,F[m+1]=x15:=fun h=>by have:=(jM (m+1) (by omega)).trans h15e;rw[List.getElem?_eq_getElem h]at this;simpa using this
     have g7:∀h:m+9<F.length,F[m+9]=x7:=fun h=>by have:=(jM (m+9) (by omega)).trans h7e;rw[List.getElem?_eq_getElem h]at this;simpa using this
     have g2:∀h:m+14<F.length,F[m+14]=x2:=fun h=>by have:=(jM (m+14) (by omega)).trans h2e;rw[List.getElem?_eq_getElem h]at this;simpa using this
     have w16:∀h:m<W.length,W[m]=x16:=fun h=>by rw[List.getElem?_eq_getElem h]at h16e;simpa using h16e
     have w15:∀h:m+1<W.length,W[m+1]=x15:=fun h=>by rw[List.getElem?_eq_getElem h]at h15e;simpa using h15e
     have w7:∀h:m+9<W.length,W[m+9]=x7:=fun h=>by rw[List.getElem?_eq_getElem h]at h7e;simpa using h7e
     have w2:∀h:m+14<W.length,W[m+14]=x2:=fun h=>by rw[List.getElem?_eq_getElem h]at h2e;simpa using h2e
     have hX:zgk W=x16+lo x15+x7+hi x2:=by simp[zgk,hWl,w16,w15,w7,w2]
     have hfs':(QI (Q1 b (m+17))).map w6=(F.map w6).set (m+16) (w6 (x16+lo x15+x7+hi x2)):=by rw[←hX,←hF,show m+17=m+16+1 by omega,hfs,List.map_set]
     simp (disch:=omega) [zz,hk',hW,hF,g15,g2]
     (repeat with_reducible refine om ?_)
     refine qL (kO x15 7 (by decide) (by decide)) rfl rfl (by simp) (by simp[qS,coC,TV.er,AV.er]) ?_
     simp (disch:=omega) [zz]
     refine qL (kO x15 18 (by decide) (by decide)) rfl rfl (by simp) (by simp[qS,coC,TV.er,AV.er]) ?_
     simp (disch:=omega) [zz,VI,uU,-BitVec.toNat_xor]
     refine qL (kO x2 17 (by decide) (by decide)) rfl rfl (by simp) (by simp[qS,coC,TV.er,AV.er]) ?_
     simp (disch:=omega) [zz]
     refine qL (kO x2 19 (by decide) (by decide)) rfl rfl (by simp) (by simp[qS,coC,TV.er,AV.er]) ?_
     simp (disch:=omega) [zz,VI,uU,UQ,g16,g7,-BitVec.toNat_xor]
     (repeat with_reducible refine om ?_)
     refine hN2 _ (m+17) ?_ (by omega) (by omega)
     apply Le.of<;>simp[qU,qG,qO,qH,qP,qK,qF,qI,qJ,qN,hfs',lo,hi]<;>try omega
    ·obtain rfl:k=64:=by omega
     simp (disch:=omega) [zz]
     refine hE2 _ _ (by simp) ?_
     have hf64:QI (Q1 b 64)=Q1 b 64:=by simp[QI]
     simp (disch:=omega) [zz,Tryz.f92,hf64]
     simp[AV.ers_eq,Function.comp_def,AV.er]
@[simp] theorem znF:qZ Tryz.prog 59=true:=by kernel_rfl
@[simp] theorem zs9:z8 Tryz.prog (.func 59)=false:=q9 znF
abbrev zgS:Cfg:=⟨fun _=>false,fun n=>n==112⟩
theorem zcw {s R C:List UInt32} {i:Nat} {x y:UInt32} (hC:C=List.zipWith (·+·) s R) (hs:s.length=8) (hR:R.length=8) (hi:i<8) (hx:s[i]?=some x) (hy:R[i]?=some y) :
  ((C.take i++s.drop i).map w6).set i (w6 (x+y))=(C.take (i+1)++s.drop (i+1)).map w6:=by
 have hCl:C.length=8:=by rw[hC];simp[hs,hR]
 have hCi:C[i]?=some (x+y):=by rw[hC];simp[List.getElem?_zipWith,hx,hy]
 have hd:s.drop i=x::s.drop (i+1):=by
  rw[←List.getElem_cons_drop (show i<s.length by omega)]
  rw[List.getElem?_eq_getElem (by omega)]at hx
  rw[Option.some.inj hx]
 rw[←List.map_set,List.take_add_one,hCi,hd]
 simp[List.set_append_right,hCl,Nat.min_eq_left (Nat.le_of_lt hi)]

set_option maxHeartbeats 4000000 in
theorem zkR (B:Nat) (s:List UInt32) (b:List UInt8) (hs:s.length=8) (hb:b.length=64) :
  q7 Tryz.prog 59 [.av .ptr (.ptr B (.arr 8 122) []),.av (.slice 5) (X1 b)] [(B,.var (.arr 8 122) (.agg (s.map w6)))] fun r H'=>r=.tup []∧H'=[(B,.var (.arr 8 122) (.agg ((jR s b).map w6)))]:=by
 refine zov Tryz.func59 zgS fun imm0 w0=>?_
 simp (disch:=omega) [zz,zX]
 (repeat with_reducible refine om ?_)
 refine zcd (V4) ?_;(simp (disch:=first|omega|assumption) [zz,zX])
 (repeat with_reducible refine om ?_)
 refine qL (zau b hb) rfl rfl (by simp) (by simp[qS,TV.er]) ?_
 simp (disch:=omega) [zz,zX]
 refine AT.loopV (α:=Nat) (fun k ver=>St.of [(0,.av .ptr (.ptr B (.arr 8 122) [])),(4,.loc 4 []),(5,.loc 5 []),(19,.av (.arr 64 122) (.agg ((Q1 b 64).map w6))),(20,.av (.int .i64) (.i .i64 k))] [(4,(.arr 8 122,.agg ((rnd b s k).map w6))),(5,(.arr 64 122,.agg (k64.map w6)))] ver [(B,.var (.arr 8 122) (.agg (s.map w6)))])
  (fun k=>k≤64) (fun k=>64-k) 0 ?_ ?_ ?_
 ·apply Le.of<;>simp[qU,qG,qO,qH,qP,qK,qF,qI,qJ,qN,rnd,zX]<;>try omega
 ·simp
 ·rintro k ver hk KL hN hE
  refine qM (cf:=zgS) laid mixed _ _ _ (by kernel_rfl) ?_
  by_cases hlt:k<64
  ·have hlt':(k:Int)<64:=by omega
   obtain⟨v0,v1,v2,v3,v4,v5,v6,v7,hv⟩:=zjt (uE (b:=b) hs k)
   obtain⟨kk,hkk⟩:∃x,k64[k]?=some x:=⟨_,List.getElem?_eq_getElem (by simp[k64];omega)⟩
   obtain⟨ww,hww⟩:∃x,(Q1 b 64)[k]?=some x:=⟨_,List.getElem?_eq_getElem (by simp;omega)⟩
   have hR:rnd b s (k+1)=G8 [v0,v1,v2,v3,v4,v5,v6,v7] kk ww:=by rw[rnd,hv,hkk,hww];rfl
   have hkl:k64.length=64:=rfl
   have hwl:=YM b 64
   generalize k64=KK at *
   generalize Q1 b 64=W at *
   have gk:∀h:k<KK.length,KK[k]=kk:=fun h=>by rw[List.getElem?_eq_getElem h]at hkk;simpa using hkk
   have gw:∀h:k<W.length,W[k]=ww:=fun h=>by rw[List.getElem?_eq_getElem h]at hww;simpa using hww
   simp (disch:=omega) [zz,hlt',hv,gw,zX]
   (repeat with_reducible refine om ?_)
   refine zcd (kO v4 6 (by decide) (by decide)) ?_;(simp (disch:=first|omega|assumption) [zz,UQ,wor,VI,pL,pC,uU,-BitVec.toNat_or,-BitVec.toNat_xor,-BitVec.toNat_and])
   refine zcd (kO v4 11 (by decide) (by decide)) ?_;(simp (disch:=first|omega|assumption) [zz,UQ,wor,VI,pL,pC,uU,-BitVec.toNat_or,-BitVec.toNat_xor,-BitVec.toNat_and])
   refine zcd (kO v4 25 (by decide) (by decide)) ?_;(simp (disch:=first|omega|assumption) [zz,UQ,wor,VI,pL,pC,uU,-BitVec.toNat_or,-BitVec.toNat_xor,-BitVec.toNat_and,gk,gw])
   (repeat with_reducible refine om ?_)
   refine zcd (kO v0 2 (by decide) (by decide)) ?_;(simp (disch:=first|omega|assumption) [zz,UQ,wor,VI,pL,pC,uU,-BitVec.toNat_or,-BitVec.toNat_xor,-BitVec.toNat_and])
   refine zcd (kO v0 13 (by decide) (by decide)) ?_;(simp (disch:=first|omega|assumption) [zz,UQ,wor,VI,pL,pC,uU,-BitVec.toNat_or,-BitVec.toNat_xor,-BitVec.toNat_and])
   refine zcd (kO v0 22 (by decide) (by decide)) ?_;(simp (disch:=first|omega|assumption) [zz,UQ,wor,VI,pL,pC,uU,-BitVec.toNat_or,-BitVec.toNat_xor,-BitVec.toNat_and])
   (repeat with_reducible refine om ?_)
   refine hN _ (k+1) ?_ (by omega) (by omega)
   apply Le.of<;>simp[qU,qG,qO,qH,qP,qK,qF,qI,qJ,qN,hR,G8,zX]<;>try omega
  ·obtain rfl:k=64:=by omega
   simp (disch:=omega) [zz,zX]
   refine hE _ _ (by simp) ?_
   simp (disch:=omega) [zz,zX]
   refine AT.loopV (α:=Nat) (fun k ver=>St.of [(0,.av .ptr (.ptr B (.arr 8 122) [])),(99,.av (.arr 8 122) (.agg ((rnd b s 64).map w6))),(100,.av (.int .i64) (.i .i64 k))] [] ver [(B,.var (.arr 8 122) (.agg (((jR s b).take k++s.drop k).map w6)))])
    (fun k=>k≤8) (fun k=>8-k) 0 ?_ ?_ ?_
   ·apply Le.of<;>simp[qU,qG,qO,qH,qP,qK,qF,qI,qJ,qN,zX]<;>try omega
   ·simp
   ·rintro k ver2 hk KL2 hN2 hE2
    have hcl:=KJ (b:=b) hs
    refine qM (cf:=zgS) laid mixed _ _ _ (by kernel_rfl) ?_
    by_cases hlt:k<8
    ·have hlt':(k:Int)<8:=by omega
     have hrl:=uE (b:=b) hs 64
     obtain⟨x,hx⟩:∃x,s[k]?=some x:=⟨_,List.getElem?_eq_getElem (by omega)⟩
     obtain⟨y,hy⟩:∃x,(rnd b s 64)[k]?=some x:=⟨_,List.getElem?_eq_getElem (by omega)⟩
     have hsq:=zcw (C:=jR s b) rfl hs hrl hlt hx hy
     have hg:(((jR s b).take k++s.drop k).map w6)[k]?=some (w6 x):=by
      rw[List.getElem?_map,List.getElem?_append_right (by rw[List.length_take];omega),List.getElem?_drop]
      simp[hcl,Nat.min_eq_left (Nat.le_of_lt hlt),hx]
     have hll:(((jR s b).take k++s.drop k).map w6).length=8:=by simp[hcl,hs];omega
     generalize ((jR s b).take k++s.drop k).map w6=Z at *
     generalize rnd b s 64=R at *
     have gy:∀g:k<R.length,R[k]=y:=fun g=>by rw[List.getElem?_eq_getElem g]at hy;simpa using hy
     have gz:∀g:k<Z.length,Z[k]=w6 x:=fun g=>by rw[List.getElem?_eq_getElem g]at hg;simpa using hg
     simp (disch:=omega) [zz,hlt',gy,gz,hll,UQ,zX]
     (repeat with_reducible refine om ?_)
     refine hN2 _ (k+1) ?_ (by omega) (by omega)
     rw[List.map_append,List.map_take,List.map_drop]at hsq
     apply Le.of<;>simp[qU,qG,qO,qH,qP,qK,qF,qI,qJ,qN,hsq,zX]<;>try omega
    ·obtain rfl:k=8:=by omega
     have e1:(jR s b).take 8++s.drop 8=jR s b:=by rw[List.take_of_length_le (by omega),List.drop_of_length_le (by omega),List.append_nil]
     simp (disch:=omega) [zz,zX]
     refine hE2 _ _ (by simp) ?_
     simp (disch:=omega) [zz,Tryz.f59,zX]
     try (rw[←List.map_take,←List.map_drop,←List.map_append,e1])
     try simp[AV.erks_eq,Function.comp_def,AV.erk,zX]

set_option maxHeartbeats 4000000 in
theorem zk1 (B:Nat) (s:List UInt32) (b:List UInt8) (hs:s.length=8) (hb:b.length=64) {op nn:AV} (hop:op.erk=op) (hnn:nn.erk=nn) :
  q7 Tryz.prog 59 [.av .ptr (.ptr B (qD Tryz.prog 129) [0]),.av (.slice 5) (X1 b)] [(B,.var (qD Tryz.prog 129) (.agg [.agg (s.map w6),op,nn]))] fun r H'=>r=.tup []∧H'=[(B,.var (qD Tryz.prog 129) (.agg [.agg ((jR s b).map w6),op,nn]))]:=by
 refine zov Tryz.func59 zgS fun imm0 w0=>?_
 simp (disch:=omega) [zz,hop,hnn]
 (repeat with_reducible refine om ?_)
 refine zcd (V4) ?_;(simp (disch:=first|omega|assumption) [zz,hop,hnn])
 (repeat with_reducible refine om ?_)
 refine qL (zau b hb) rfl rfl (by simp) (by simp[qS,TV.er]) ?_
 simp (disch:=omega) [zz,hop,hnn]
 refine AT.loopV (α:=Nat) (fun k ver=>St.of [(0,.av .ptr (.ptr B (qD Tryz.prog 129) [0])),(4,.loc 4 []),(5,.loc 5 []),(19,.av (.arr 64 122) (.agg ((Q1 b 64).map w6))),(20,.av (.int .i64) (.i .i64 k))] [(4,(.arr 8 122,.agg ((rnd b s k).map w6))),(5,(.arr 64 122,.agg (k64.map w6)))] ver [(B,.var (qD Tryz.prog 129) (.agg [.agg (s.map w6),op,nn]))])
  (fun k=>k≤64) (fun k=>64-k) 0 ?_ ?_ ?_
 ·apply Le.of<;>simp[qU,qG,qO,qH,qP,qK,qF,qI,qJ,qN,rnd,hop,hnn]<;>try omega
 ·simp
 ·rintro k ver hk KL hN hE
  refine qM (cf:=zgS) laid mixed _ _ _ (by kernel_rfl) ?_
  by_cases hlt:k<64
  ·have hlt':(k:Int)<64:=by omega
   obtain⟨v0,v1,v2,v3,v4,v5,v6,v7,hv⟩:=zjt (uE (b:=b) hs k)
   obtain⟨kk,hkk⟩:∃x,k64[k]?=some x:=⟨_,List.getElem?_eq_getElem (by simp[k64];omega)⟩
   obtain⟨ww,hww⟩:∃x,(Q1 b 64)[k]?=some x:=⟨_,List.getElem?_eq_getElem (by simp;omega)⟩
   have hR:rnd b s (k+1)=G8 [v0,v1,v2,v3,v4,v5,v6,v7] kk ww:=by rw[rnd,hv,hkk,hww];rfl
   have hkl:k64.length=64:=rfl
   have hwl:=YM b 64
   generalize k64=KK at *
   generalize Q1 b 64=W at *
   have gk:∀h:k<KK.length,KK[k]=kk:=fun h=>by rw[List.getElem?_eq_getElem h]at hkk;simpa using hkk
   have gw:∀h:k<W.length,W[k]=ww:=fun h=>by rw[List.getElem?_eq_getElem h]at hww;simpa using hww
   simp (disch:=omega) [zz,hlt',hv,gw,hop,hnn]
   (repeat with_reducible refine om ?_)
   refine zcd (kO v4 6 (by decide) (by decide)) ?_;(simp (disch:=first|omega|assumption) [zz,UQ,wor,VI,pL,pC,uU,-BitVec.toNat_or,-BitVec.toNat_xor,-BitVec.toNat_and])
   refine zcd (kO v4 11 (by decide) (by decide)) ?_;(simp (disch:=first|omega|assumption) [zz,UQ,wor,VI,pL,pC,uU,-BitVec.toNat_or,-BitVec.toNat_xor,-BitVec.toNat_and])
   refine zcd (kO v4 25 (by decide) (by decide)) ?_;(simp (disch:=first|omega|assumption) [zz,UQ,wor,VI,pL,pC,uU,-BitVec.toNat_or,-BitVec.toNat_xor,-BitVec.toNat_and,gk,gw])
   (repeat with_reducible refine om ?_)
   refine zcd (kO v0 2 (by decide) (by decide)) ?_;(simp (disch:=first|omega|assumption) [zz,UQ,wor,VI,pL,pC,uU,-BitVec.toNat_or,-BitVec.toNat_xor,-BitVec.toNat_and])
   refine zcd (kO v0 13 (by decide) (by decide)) ?_;(simp (disch:=first|omega|assumption) [zz,UQ,wor,VI,pL,pC,uU,-BitVec.toNat_or,-BitVec.toNat_xor,-BitVec.toNat_and])
   refine zcd (kO v0 22 (by decide) (by decide)) ?_;(simp (disch:=first|omega|assumption) [zz,UQ,wor,VI,pL,pC,uU,-BitVec.toNat_or,-BitVec.toNat_xor,-BitVec.toNat_and])
   (repeat with_reducible refine om ?_)
   refine hN _ (k+1) ?_ (by omega) (by omega)
   apply Le.of<;>simp[qU,qG,qO,qH,qP,qK,qF,qI,qJ,qN,hR,G8,hop,hnn]<;>try omega
  ·obtain rfl:k=64:=by omega
   simp (disch:=omega) [zz,hop,hnn]
   refine hE _ _ (by simp) ?_
   simp (disch:=omega) [zz,hop,hnn]
   refine AT.loopV (α:=Nat) (fun k ver=>St.of [(0,.av .ptr (.ptr B (qD Tryz.prog 129) [0])),(99,.av (.arr 8 122) (.agg ((rnd b s 64).map w6))),(100,.av (.int .i64) (.i .i64 k))] [] ver [(B,.var (qD Tryz.prog 129) (.agg [.agg (((jR s b).take k++s.drop k).map w6),op,nn]))])
    (fun k=>k≤8) (fun k=>8-k) 0 ?_ ?_ ?_
   ·apply Le.of<;>simp[qU,qG,qO,qH,qP,qK,qF,qI,qJ,qN,hop,hnn]<;>try omega
   ·simp
   ·rintro k ver2 hk KL2 hN2 hE2
    have hcl:=KJ (b:=b) hs
    refine qM (cf:=zgS) laid mixed _ _ _ (by kernel_rfl) ?_
    by_cases hlt:k<8
    ·have hlt':(k:Int)<8:=by omega
     have hrl:=uE (b:=b) hs 64
     obtain⟨x,hx⟩:∃x,s[k]?=some x:=⟨_,List.getElem?_eq_getElem (by omega)⟩
     obtain⟨y,hy⟩:∃x,(rnd b s 64)[k]?=some x:=⟨_,List.getElem?_eq_getElem (by omega)⟩
     have hsq:=zcw (C:=jR s b) rfl hs hrl hlt hx hy
     have hg:(((jR s b).take k++s.drop k).map w6)[k]?=some (w6 x):=by
      rw[List.getElem?_map,List.getElem?_append_right (by rw[List.length_take];omega),List.getElem?_drop]
      simp[hcl,Nat.min_eq_left (Nat.le_of_lt hlt),hx]
     have hll:(((jR s b).take k++s.drop k).map w6).length=8:=by simp[hcl,hs];omega
     generalize ((jR s b).take k++s.drop k).map w6=Z at *
     generalize rnd b s 64=R at *
     have gy:∀g:k<R.length,R[k]=y:=fun g=>by rw[List.getElem?_eq_getElem g]at hy;simpa using hy
     have gz:∀g:k<Z.length,Z[k]=w6 x:=fun g=>by rw[List.getElem?_eq_getElem g]at hg;simpa using hg
     simp (disch:=omega) [zz,hlt',gy,gz,hll,UQ,hop,hnn]
     (repeat with_reducible refine om ?_)
     refine hN2 _ (k+1) ?_ (by omega) (by omega)
     rw[List.map_append,List.map_take,List.map_drop]at hsq
     apply Le.of<;>simp[qU,qG,qO,qH,qP,qK,qF,qI,qJ,qN,hsq,hop,hnn]<;>try omega
    ·obtain rfl:k=8:=by omega
     have e1:(jR s b).take 8++s.drop 8=jR s b:=by rw[List.take_of_length_le (by omega),List.drop_of_length_le (by omega),List.append_nil]
     simp (disch:=omega) [zz,hop,hnn]
     refine hE2 _ _ (by simp) ?_
     simp (disch:=omega) [zz,Tryz.f59,hop,hnn]
     try (rw[←List.map_take,←List.map_drop,←List.map_append,e1])
     try simp[AV.erks_eq,Function.comp_def,AV.erk,hop,hnn]
@[simp] theorem znI:qZ Tryz.prog 27=true:=by kernel_rfl
@[simp] theorem zrX:z8 Tryz.prog (.func 27)=false:=q9 znI
@[simp] theorem znv:qZ Tryz.prog 28=true:=by kernel_rfl
@[simp] theorem zrL:z8 Tryz.prog (.func 28)=false:=q9 znv
@[simp] theorem zwO:qZ Tryz.prog 29=true:=by kernel_rfl
@[simp] theorem zxw:z8 Tryz.prog (.func 29)=false:=q9 zwO
@[simp] theorem zxb:qZ Tryz.prog 8=true:=by kernel_rfl
@[simp] theorem zxB:z8 Tryz.prog (.func 8)=false:=q9 zxb
abbrev zpn:Cfg:=⟨fun n=>n==3,fun _=>false⟩
noncomputable abbrev U0:TyD:=qD Tryz.prog 129
noncomputable def jE (B:Nat) (s:List UInt32) (op:AV) (n:Nat):q8:=[(B,.var U0 (.agg [.agg (s.map w6),op,.i .u64 n]))]
theorem zjf:q7 Tryz.prog 27 [] [] fun r H'=>∃B,r=.av .ptr (.ptr B U0 [])∧H'=jE B h8 (.sl .full []) 0:=by
 refine zov Tryz.func27 zpn fun imm0 w0=>?_
 simp (disch:=omega) [zz]
 refine qL zjO rfl rfl (by simp) (by simp[qS]) ?_
 simp (disch:=omega) [zz]
 intro B
 simp (disch:=omega) [zz,Tryz.f27]
 simp[jE,AV.erks_eq,Function.comp_def,AV.erk]

theorem za3 {t u:List UInt8}:∀ {n:Nat},64*n≤t.length→QA (t++u) n=QA t n
 | 0,_=>rfl
 | n+1,h=>by
  rw[QA,QA,za3 (by omega),List.drop_append_of_le_length (by omega),List.take_append_of_le_length (by simp;omega)]

abbrev znp:Cfg:=⟨fun _=>false,fun n=>n==39⟩
set_option maxHeartbeats 4000000 in
theorem ziZ (B:Nat) (l:List UInt8) (hl:l.length≤1000000000000) :
  q7 Tryz.prog 28 [.av .ptr (.ptr B U0 []),.av .str (.s l)] (jE B h8 (.sl .full []) 0) fun r H'=>r=.tup []∧H'=jE B (QA l (l.length / 64)) (X1 (l.drop (64*(l.length / 64)))) l.length:=by
 have hbe:∀x,X1 x=.sl .no (x.map K3):=fun _=>rfl
 refine zov Tryz.func28 znp fun imm0 w0=>?_
 simp (disch:=omega) [zz,jE,zei,wB]
 (repeat with_reducible refine om ?_)
 refine AT.loopV (α:=Nat) (fun k ver=>St.of [(0,.av .ptr (.ptr B U0 []))] [] ver (jE B (QA l k) (X1 (l.drop (64*k))) l.length))
  (fun k=>64*k≤l.length) (fun k=>l.length-64*k) 0 ?_ ?_ ?_
 ·refine Le.ofW ?_ ?_ ?_ ?_ ?_<;>simp[qU,qG,zbx,C4,zca,zbn,zk8,zfd,zbU,gE,cB,qO,qH,qP,qK,qF,qI,qJ,qN,jE,QA,hbe]<;>try omega
 ·simp
 ·rintro k ver hk KL hN hE
  obtain⟨R,hR⟩:∃R,l.drop (64*k)=R:=⟨_,rfl⟩
  have hRl:R.length=l.length-64*k:=by rw[←hR];simp
  have hkl:=gT l k
  have hn1:QA l (k+1)=jR (QA l k) (R.take 64):=by rw[QA,hR]
  have hn2:l.drop (64*(k+1))=R.drop 64:=by rw[←hR,List.drop_drop];congr 1
  rw[hR]
  obtain⟨S,hS⟩:∃S,QA l k=S:=⟨_,rfl⟩
  rw[hS]at hn1 hkl ⊢
  refine qM (cf:=znp) laid mixed _ _ _ (by kernel_rfl) ?_
  by_cases hlt:64≤R.length
  ·have hlt':(64:Int)≤R.length:=by omega
   simp (disch:=omega) [zz,jE,hbe,hlt']
   (repeat with_reducible refine om ?_)
   refine jP (R:=fun r H'=>r=.tup []∧H'=jE B (jR S (R.take 64)) (X1 R) l.length) rfl (by simp[qQ]) (by simp) ?_ ?_
   ·have:=zk1 B S (R.take 64) hkl (by simp;omega) (op:=X1 R) (nn:=.i .u64 l.length) (by simp) (by simp[AV.erk])
    simpa[jE,hbe,TV.er,AV.er,AV.ers_eq,AV.erk,AV.erks,AV.erks_eq,q8.er_cons,q8.er_nil,HObj.er_var,Function.comp_def,Tok.k]using this
   ·rintro r H' ⟨rfl,rfl⟩
    simp (disch:=omega) [zz,jE,hbe]
    (repeat with_reducible refine om ?_)
    refine hN _ (k+1) ?_ (by omega) (by omega)
    rw[hn1,hn2]
    have htk:List.take R.length (List.map K3 R)=List.map K3 R:=List.take_of_length_le (by simp)
    refine Le.ofW ?_ ?_ ?_ ?_ ?_<;>simp[qU,qG,zbx,C4,zca,zbn,zk8,zfd,zbU,gE,cB,qO,qH,qP,qK,qF,qI,qJ,qN,jE,hbe,htk]<;>try omega
  ·have hlt':¬(64:Int)≤R.length:=by omega
   have hk2:l.length / 64=k:=by omega
   simp (disch:=omega) [zz,jE,hbe,hlt']
   refine hE _ _ (by simp) ?_
   simp (disch:=omega) [zz,Tryz.f28,jE,hbe,hk2,hS,hR]
   simp[AV.erks_eq,Function.comp_def,AV.erk,Tok.k,AV.ers_eq,AV.er]

def ZX (s:List UInt32) (t:List UInt8):Nat→List UInt32
 | 0=>s
 | n+1=>jR (ZX s t n) ((t.drop (64*n)).take 64)
theorem zaB {s:List UInt32} (t:List UInt8) (hs:s.length=8):∀n,(ZX s t n).length=8
 | 0=>hs
 | n+1=>KJ (zaB t hs n)
def JC (op:List UInt8) (n:Nat):List UInt8:=op++[128]++List.replicate (xD op.length) 0++W9 n
abbrev zk0:Cfg:=⟨fun n=>n==3,fun _=>false⟩
theorem vX:∀l:List UInt8,bytesOf (l.map K3)=some l
 | []=>rfl
 | b::l=>by simp[bytesOf,vX l]
set_option maxHeartbeats 4000000 in
theorem zkt (B:Nat) (s:List UInt32) (op:List UInt8) (n:Nat) (hs:s.length=8) (hop:op.length<64) (hn:n≤1000000000000) :
  q7 Tryz.prog 29 [.av .ptr (.ptr B U0 [])] (jE B s (X1 op) n) fun r H'=>r=.av (qD Tryz.prog 35) (KW (WM (ZX s (JC op n) ((JC op n).length / 64))))∧H'=jE B s (X1 op) n:=by
 have hbe:∀x,X1 x=.sl .no (x.map K3):=fun _=>rfl
 refine q7.drop (R:=fun r H'=>r=.av (qD Tryz.prog 35) (KW (WM (ZX s (JC op n) ((JC op n).length / 64))))∧∃B2 o,H'=(B2,o)::jE B s (X1 op) n) ?_ ?_
 rotate_left
 ·rintro r H' ⟨rfl,B2,o,rfl⟩
  exact⟨_,List.sublist_cons_self _ _,rfl,rfl⟩
 have hp:=zm1 op.length
 refine zov Tryz.func29 zk0 fun imm0 w0=>?_
 simp (disch:=omega) [zz,jE,hbe]
 intro B2 hB2
 simp (disch:=omega) [zz,jE,hbe,vX,wB,hB2]
 (repeat with_reducible refine om ?_)
 refine AT.loopV (α:=Nat × Nat) (fun k ver=>St.of [(0,.av .ptr (.ptr B U0 [])),(2,.loc 2 []),(3,.av .ptr (.ptr B2 (.arr 8 122) [])),(4,.av (.slice 5) (.sl (.own k.2 (ver k.2)) ((op++[128]++List.replicate k.1 0).map K3)))] [(2,(qD Tryz.prog 35,.agg (List.replicate 32 (.i .u8 0))))] ver ((B2,.var (.arr 8 122) (.agg (s.map w6)))::jE B s (X1 op) n))
  (fun k=>k.1≤xD op.length) (fun k=>xD op.length-k.1) (0,23) ?_ ?_ ?_
 ·apply Le.of<;>simp[qU,qG,qO,qH,qP,qK,qF,qI,qJ,qN,zdJ,jE,hbe]<;>try omega
 ·simp
 rintro⟨k,tk⟩ ver hk KL hN hE
 simp only at hk hN
 refine qM (cf:=zk0) laid mixed _ _ _ (by kernel_rfl) ?_
 have hlen:((op.length:Int)+((k:Int)+1)).tmod 64=(((op.length+1+k) % 64:Nat):Int):=by
  rw[Int.tmod_eq_emod_of_nonneg (by omega)];omega
 by_cases hkt:k<xD op.length
 ·have hne:=zgX hkt
  have hne':¬((op.length:Int)+((k:Int)+1)).tmod 64=56:=by rw[hlen];omega
  simp (disch:=omega) [zz,wB,hne']
  (repeat with_reducible refine om ?_)
  refine hN _ (k+1,30) ?_ (by first|omega|(simp;done)|(simp;omega)) (by first|omega|(simp;done)|(simp;omega));apply Le.of<;>simp[qU,qG,qO,qH,qP,qK,qF,qI,qJ,qN,List.replicate_succ',zbY,zdJ]<;>try omega
 have hke:k=xD op.length:=by omega
 subst hke
 have hsp:=zba op.length
 have hne':((op.length:Int)+((xD op.length:Int)+1)).tmod 64=56:=by rw[hlen];omega
 simp (disch:=omega) [zz,hne']
 refine hE _ _ (by simp) ?_
 simp (disch:=omega) [zz,zei]
 refine AT.loopV (α:=Nat × Nat) (fun k ver=>St.of [(0,.av .ptr (.ptr B U0 [])),(2,.loc 2 []),(3,.av .ptr (.ptr B2 (.arr 8 122) [])),(4,.av (.slice 5) (.sl (.own k.2 (ver k.2)) ((op++[128]++List.replicate (xD op.length) 0++(W9 n).take (8-k.1)).map K3))),(5,.av (.int .i64) (.i .i64 (8*(k.1:Int)-8)))] [(2,(qD Tryz.prog 35,.agg (List.replicate 32 (.i .u8 0))))] ver ((B2,.var (.arr 8 122) (.agg (s.map w6)))::jE B s (X1 op) n))
  (fun k=>k.1≤8) (fun k=>k.1) (8,tk) ?_ ?_ ?_
 ·apply Le.of<;>simp[qU,qG,qO,qH,qP,qK,qF,qI,qJ,qN,jE,hbe]<;>try omega
 ·simp
 rintro⟨j,tk2⟩ ver2 hj KL2 hN2 hE2
 simp only at hj hN2
 refine qM (cf:=zk0) laid mixed _ _ _ (by kernel_rfl) ?_
 cases j with
 | succ j =>
  have hlb:(W9 n).length=8:=rfl
  have hst:=zhj n j (by omega)
  have e3:=zpG (n*8) (8*j) (by omega)
  have hst':((W9 n).map K3).take (8-j)=((W9 n).map K3).take (7-j)++[K3 (UInt8.ofNat (n*8 / 2 ^ (8*j)))]:=by
   rw[←List.map_take,hst,List.map_append,List.map_take];rfl
  have e8:=znm (n*8 / 2 ^ (8*j))
  simp at e8
  have hge:(0:Int)≤8*(j:Int):=by omega
  push_cast at e3
  have hq:8*((j:Int)+1)-8=8*j:=by omega
  simp (disch:=omega) [zz,wB,e3,znm,hge,jE,hq,hB2,Int.mul_comm 8 (n:Int),zei]
  (repeat with_reducible refine om ?_)
  refine hN2 _ (j,45) ?_ (by first|omega|(simp;done)|(simp;omega)) (by first|omega|(simp;done)|(simp;omega));apply Le.of<;>simp[qU,qG,qO,qH,qP,qK,qF,qI,qJ,qN,hst',e8,jE,hbe]<;>try omega
 | zero =>
  simp (disch:=omega) [zz,jE]
  refine hE2 _ _ (by simp) ?_
  obtain⟨T,hT⟩:∃T,JC op n=T:=⟨_,rfl⟩
  have hTm:T.length % 64=0:=by
   rw[←hT];simp[JC,W9];omega
  obtain⟨M,hM⟩:∃M,T.length=64*M:=⟨T.length / 64,by omega⟩
  have hTl:T.length≤200:=by rw[←hT];simp[JC,W9];omega
  have hTM:T.length / 64=M:=by omega
  have hTe:List.map K3 op++K3 128::(List.replicate (xD op.length) (K3 0)++List.take 8 (List.map K3 (W9 n)))=List.map K3 T:=by
   rw[←hT];simp[JC,W9]
  rw[hT,hTM]
  clear hE2 hN2
  simp (disch:=omega) [zz,jE,hTe]
  refine AT.loopV (α:=Nat) (fun k ver=>St.of [(0,.av .ptr (.ptr B U0 [])),(2,.loc 2 []),(3,.av .ptr (.ptr B2 (.arr 8 122) [])),(4,.av (.slice 5) (X1 (T.drop (64*k))))] [(2,(qD Tryz.prog 35,.agg (List.replicate 32 (.i .u8 0))))] ver ((B2,.var (.arr 8 122) (.agg ((ZX s T k).map w6)))::jE B s (X1 op) n))
   (fun k=>k≤M) (fun k=>M-k) 0 ?_ ?_ ?_
  ·apply Le.of<;>simp[qU,qG,qO,qH,qP,qK,qF,qI,qJ,qN,jE,hbe,ZX]<;>try omega
  ·simp
  rintro k ver3 hk KL3 hN3 hE3
  have hkl:=zaB T hs k
  refine qM (cf:=zk0) laid mixed _ _ _ (by kernel_rfl) ?_
  by_cases hlt:k<M
  ·obtain⟨R,hR⟩:∃R,T.drop (64*k)=R:=⟨_,rfl⟩
   have hRl:R.length=T.length-64*k:=by rw[←hR];simp
   have hn1:ZX s T (k+1)=jR (ZX s T k) (R.take 64):=by rw[ZX,hR]
   have hn2:T.drop (64*(k+1))=R.drop 64:=by rw[←hR,List.drop_drop];congr 1
   rw[hR]
   have hpos:0<R.length:=by omega
   simp (disch:=omega) [zz,jE,hbe,hpos]
   (repeat with_reducible refine om ?_)
   refine qE (R:=fun r H'=>r=.tup []∧H'=[(B2,.var (.arr 8 122) (.agg ((jR (ZX s T k) (R.take 64)).map w6)))]) [(B2,.var (.arr 8 122) (.agg ((ZX s T k).map w6)))] (jE B s (X1 op) n) (by simp[jE,hbe]) rfl (by simp[qQ]) (by simp) ?_ ?_
   ·have:=zkR B2 (ZX s T k) (R.take 64) hkl (by simp;omega)
    simpa[jE,hbe,TV.er,AV.er,AV.ers_eq,AV.erk,AV.erks,AV.erks_eq,q8.er_cons,q8.er_nil,HObj.er_var,Function.comp_def,Tok.k]using this
   ·rintro r H' ⟨rfl,rfl⟩ _
    refine⟨_,HSub.refl _,?_⟩
    simp (disch:=omega) [zz,jE,hbe]
    (repeat with_reducible refine om ?_)
    have htk:List.take R.length (List.map K3 R)=List.map K3 R:=List.take_of_length_le (by simp)
    refine hN3 _ (k+1) ?_ (by omega) (by omega)
    rw[hn1,hn2]
    refine Le.ofW ?_ ?_ ?_ ?_ ?_<;>simp[qU,qG,zbx,C4,zca,zbn,zk8,zfd,zbU,gE,cB,qO,qH,qP,qK,qF,qI,qJ,qN,jE,hbe,htk]<;>try omega
  ·obtain rfl:k=M:=by omega
   have hdn:T.drop (64*k)=[]:=List.drop_eq_nil_of_le (by omega)
   rw[hdn]
   simp (disch:=omega) [zz,jE,hbe]
   refine hE3 _ _ (by simp) ?_
   simp (disch:=omega) [zz,jE]
   obtain⟨D,hD⟩:∃D,WM (ZX s T k)=D:=⟨_,rfl⟩
   have hDl:D.length=32:=by rw[←hD];exact zdN _
   refine AT.loopV (α:=Nat) (fun j ver=>St.of [(2,.loc 2 []),(3,.av .ptr (.ptr B2 (.arr 8 122) [])),(6,.loc 6 []),(54,.av (.int .i64) (.i .i64 j))] [(2,(qD Tryz.prog 35,.agg (List.replicate 32 (.i .u8 0)))),(6,(qD Tryz.prog 35,.agg ((D.take j++List.replicate (32-j) 0).map K3)))] ver ((B2,.var (.arr 8 122) (.agg ((ZX s T k).map w6)))::jE B s (X1 op) n))
    (fun j=>j≤32) (fun j=>32-j) 0 ?_ ?_ ?_
   ·apply Le.of<;>simp[qU,qG,qO,qH,qP,qK,qF,qI,qJ,qN,zbY,jE,hbe]<;>try omega
   ·simp
   ·rintro j ver4 hj KL4 hN4 hE4
    refine qM (cf:=zk0) laid mixed _ _ _ (by kernel_rfl) ?_
    by_cases hjt:j<32
    ·obtain⟨q,hq⟩:∃q:Nat,j / 4=q:=⟨_,rfl⟩
     obtain⟨r,hr⟩:∃r:Nat,j % 4=r:=⟨_,rfl⟩
     have hq':(j:Int).tdiv 4=(q:Int):=by rw[Int.tdiv_eq_ediv_of_nonneg (by omega)];omega
     have hr':(j:Int).tmod 4=(r:Int):=by rw[Int.tmod_eq_emod_of_nonneg (by omega)];omega
     have hjt':(j:Int)<32:=by omega
     obtain⟨x,hx⟩:∃x,(ZX s T k)[q]?=some x:=⟨_,List.getElem?_eq_getElem (by omega)⟩
     have hDj:D[j]?=some (x >>> UInt32.ofNat (24-8*r)).toUInt8:=by
      rw[←hD]
      simp[WM,hjt,hq,hr,hx]
     have hsq:((D.take j++List.replicate (32-j) 0).map K3).set j (K3 (x >>> UInt32.ofNat (24-8*r)).toUInt8)=(D.take (j+1)++List.replicate (32-(j+1)) 0).map K3:=by
      rw[←List.map_set,List.take_add_one,hDj,show 32-j=(32-(j+1))+1 by omega,List.replicate_succ]
      simp[List.set_append_right,hDl,Nat.min_eq_left (Nat.le_of_lt hjt)]
     generalize ZX s T k=H at *
     have hy:=zrH (x >>> UInt32.ofNat (24-8*r))
     generalize (x >>> UInt32.ofNat (24-8*r)).toUInt8=y at *
     have gx:∀g:q<H.length,H[q]=x:=fun g=>by rw[List.getElem?_eq_getElem g]at hx;simpa using hx
     simp (disch:=omega) [zz,hjt',hq',hr',gx,uU,hy,jE]
     (repeat with_reducible refine om ?_)
     simp only[List.map_append,List.map_take,List.map_replicate,zbY]at hsq
     refine hN4 _ (j+1) ?_ (by first|omega|(simp;done)|(simp;omega)) (by first|omega|(simp;done)|(simp;omega));apply Le.of<;>simp[qU,qG,qO,qH,qP,qK,qF,qI,qJ,qN,hsq,zbY,jE]<;>try omega
    ·obtain rfl:j=32:=by omega
     simp (disch:=omega) [zz]
     refine hE4 _ _ (by simp) ?_
     simp (disch:=omega) [zz,Tryz.f29,jE]
     rw[hD,zmR,List.take_of_length_le (by simp[hDl])]
     simp[AV.ers_eq,Function.comp_def,AV.er,AV.erk,AV.erks_eq,hbe,Tok.k]
theorem GQ (t:List UInt8) (q:Nat):∀m,QA t (q+m)=ZX (QA t q) (t.drop (64*q)) m
 | 0=>rfl
 | m+1=>by
  rw[←Nat.add_assoc,QA,ZX,GQ t q m,List.drop_drop]
  congr 3;omega
theorem zbG (l:List UInt8):(K2 l).drop (64*(l.length / 64))=JC (l.drop (64*(l.length / 64))) l.length:=by
 have hp:xD (l.length-64*(l.length / 64))=xD l.length:=by unfold xD;omega
 have h0:64*(l.length / 64)≤l.length:=by omega
 simp only[K2,JC,List.length_drop,hp,List.append_assoc]
 rw[List.drop_append_of_le_length h0]
theorem zgU (l:List UInt8):WM (ZX (QA l (l.length / 64)) (JC (l.drop (64*(l.length / 64))) l.length) ((JC (l.drop (64*(l.length / 64))) l.length).length / 64))=sha l:=by
 have hm:=zeC l
 have hs:=zbG l
 have hlen:(K2 l).length / 64=l.length / 64+(JC (l.drop (64*(l.length / 64))) l.length).length / 64:=by
  rw[←hs,List.length_drop]
  have:l.length≤(K2 l).length:=by simp[K2]
  omega
 have ha:QA (K2 l) (l.length / 64)=QA l (l.length / 64):=by
  have:K2 l=l++([128]++List.replicate (xD l.length) 0++W9 l.length):=by simp[K2]
  rw[this]
  exact za3 (by omega)
 rw[sha,hlen,GQ,hs,ha]

def zfI (l:List UInt8):AV:=.sl .no [.s l]
set_option maxHeartbeats 4000000 in
theorem znJ (l:List UInt8) (hl:l.length≤1000000000000):PC Tryz.prog 8 [.av (.slice 9) (zfI l)] (.av (qD Tryz.prog 35) (KW (sha l))):=by
 have hbe:∀x,X1 x=.sl .no (x.map K3):=fun _=>rfl
 refine zow Tryz.func8 cf0 fun imm0 w0=>?_
 simp (disch:=omega) [zz,zfI]
 refine jP (R:=fun r H'=>∃B,r=.av .ptr (.ptr B U0 [])∧H'=jE B h8 (.sl .full []) 0) rfl (by simp[qQ]) (by simp) ?_ ?_
 ·simpa[q8.er_nil]using zjf
 rintro r H' ⟨B,rfl,rfl⟩
 simp (disch:=omega) [zz,jE]
 refine AT.loopV (α:=Nat) (fun k ver=>St.of [(2,.loc 2 []),(3,.av .ptr (.ptr B U0 [])),(7,.av (.slice 9) (.sl .no [.s l])),(8,.av (.int .i64) (.i .i64 1)),(9,.av (.int .i64) (.i .i64 k))] [(2,(qD Tryz.prog 35,.agg (List.replicate 32 (.i .u8 0))))] ver
   (match k with|0=>jE B h8 (.sl .full []) 0|_+1=>jE B (QA l (l.length / 64)) (X1 (l.drop (64*(l.length / 64)))) l.length))
  (fun k=>k≤1) (fun k=>1-k) 0 ?_ ?_ ?_
 ·apply Le.of<;>simp[qU,qG,qO,qH,qP,qK,qF,qI,qJ,qN,jE]<;>try omega
 ·simp
 rintro k ver hk KL hN hE
 refine qM (cf:=cf0) laid mixed _ _ _ (by kernel_rfl) ?_
 cases k with
 | zero =>
  simp (disch:=omega) [zz,jE]
  refine jP (R:=fun r H'=>r=.tup []∧H'=jE B (QA l (l.length / 64)) (X1 (l.drop (64*(l.length / 64)))) l.length) rfl (by simp[qQ]) (by simp) ?_ ?_
  ·have:=ziZ B l hl
   simpa[jE,TV.er,AV.er,AV.ers_eq,AV.erk,AV.erks,AV.erks_eq,q8.er_cons,q8.er_nil,HObj.er_var,Function.comp_def,Tok.k]using this
  ·rintro r H' ⟨rfl,rfl⟩
   simp (disch:=omega) [zz,jE]
   refine hN _ 1 ?_ (by first|omega|(simp;done)|(simp;omega)) (by first|omega|(simp;done)|(simp;omega));apply Le.of<;>simp[qU,qG,qO,qH,qP,qK,qF,qI,qJ,qN,jE]<;>try omega
 | succ k =>
  obtain rfl:k=0:=by omega
  simp (disch:=omega) [zz,jE]
  refine hE _ _ (by simp) ?_
  simp (disch:=omega) [zz,jE]
  refine jP (R:=fun r H'=>r=.av (qD Tryz.prog 35) (KW (sha l))∧H'=jE B (QA l (l.length / 64)) (X1 (l.drop (64*(l.length / 64)))) l.length) rfl (by simp[qQ]) (by simp) ?_ ?_
  ·have:=zkt B (QA l (l.length / 64)) (l.drop (64*(l.length / 64))) l.length (gT l _) (by simp;omega) hl
   rw[zgU]at this
   simpa[jE,TV.er,AV.er,AV.ers_eq,AV.erk,AV.erks,AV.erks_eq,q8.er_cons,q8.er_nil,HObj.er_var,Function.comp_def,Tok.k]using this
  ·rintro r H' ⟨rfl,rfl⟩
   simp (disch:=omega) [zz,Tryz.f8]
end Go.Proofs.YtcgpcfcbienapaaGreatDoor
end
