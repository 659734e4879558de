/- Numbers of texts: the program takes one apart. No condition beyond each theorem's own. -/
import Derived.Test.YtcioeonlclpacaaGreatDoorH3ToP45
import Derived.Test.YtcioeonlclpacaaGreatDoorQ0ToP0
import Derived.Test.YtcioeonlclpacaaGreatDoorShelf2
import Derived.Below
set_option linter.unusedSimpArgs false
set_option linter.unusedVariables false
set_option linter.unusedSectionVars false
set_option maxRecDepth 100000
/-! Numbers of texts: the program takes one apart. -/
namespace Go.Proofs.YtcioeonlclpacaaGreatDoor
open Go Go.Ab
open Classical
variable [Sel] [SelPow] [SelErr]

theorem q7.of_below {P:Program} {f:FuncId} {args:List TV} {vs0:List Value} {R:TV→q8→Prop} (hdet:∀imm w vs,ARs P (g0 imm) w args vs→vs=vs0)
  (h:∀imm w,xV P imm w→Calls P f vs0.toArray w fun e w'=>∃v r,e=.returned v∧R r []∧(∀imm,AR P (g0 imm) w' r v)∧RowKit.Below w.heap.size w w'):q7 P f args [] R:=by
 intro imm w vs hrep hargs
 have:=hdet imm w vs.toList hargs
 have hv:vs=vs0.toArray:=by rw[←this]
 subst hv
 refine(h imm w hrep.tab).mono ?_
 rintro e w' ⟨v,r,rfl,hR,hr,hb⟩
 have hlt:∀(b:Nat) (o:Obj),w.heap[b]?=some o→w'.heap[b]?=some o:=by
  intro b o hbo
  have h1:=(Array.getElem?_eq_some_iff.1 hbo).1
  rw[hb.block b h1];exact hbo
 have hk:k5 (g0 imm) w w':=fun b cs E fz _ hbo=>⟨cs,E,fz,hlt _ _ hbo,rfl,fun _ _=>rfl⟩
 refine⟨v,r,imm,[],rfl,hR,hr _,⟨fun b hbo=>?_,by simp[q8.keys],by simp,hrep.tab.keep (g:=g0 imm) (g':=g0 imm) (Gh.le_refl _) hrep.imm hk⟩,?_⟩
 ·obtain⟨cs,E,fz,h1,h2⟩:=hrep.imm b hbo
  exact⟨cs,E,fz,hlt _ _ h1,h2⟩
 ·exact {
   os:=hb.os,tape:=hb.tape,output:=hb.output
   size:=hb.size
   frame:=fun b hbo _=>⟨hb.block b hbo,rfl⟩
   imm:=fun _=>Nat.le_refl _
   kept:=fun b cs E fz h0 hbo=>hk b cs E fz h0 hbo
   dom:=fun b hbo=>by simp[q8.keys]at hbo
   drawn:=fun hd=>by rw[SelErr.nod]at hd;cases hd }
@[simp] theorem zkw:qZ Tryz.prog 235=true:=by kernel_rfl
@[simp] theorem zrf:z8 Tryz.prog (.func 235)=false:=q9 zkw
@[simp] theorem zAf:qZ Tryz.prog 208=true:=by kernel_rfl
@[simp] theorem zB4:z8 Tryz.prog (.func 208)=false:=q9 zAf
theorem zFY {n:Nat} {nm:String} (h:(Tryz.prog.globals[n]?).map (·.name)=some nm) (hn:nm = "strconv.ErrSyntax"∨nm = "strconv.ErrRange") (ho:Sel.on nm=true):n∈zbW Tryz.prog:=by
 cases e:Tryz.prog.globals[n]? with
 | none=>rw[e]at h;cases h
 | some gl =>
  rw[e]at h
  obtain rfl:gl.name=nm:=Option.some.inj h
  exact zEG e hn ho
theorem zGi:6∈zbW Tryz.prog:=zFY (nm:="strconv.ErrSyntax") (by kernel_rfl) (.inl rfl) SelErr.syn
theorem zGj:7∈zbW Tryz.prog:=zFY (nm:="strconv.ErrRange") (by kernel_rfl) (.inr rfl) SelErr.rng
theorem zFb {imm:Nat→Nat} {w:World} (h:xV Tryz.prog imm w) {n:Nat} (hn:n∈zbW Tryz.prog):∃ev,w.cell? ⟨n,0,none⟩=some ev∧(ev=.nilIface∨∃te pe,ev=.iface te pe):=by
 obtain⟨_,cs,E,fz,v,h1,h2,h3⟩:=h.2.1 n hn
 exact⟨v,by simp[World.cell?,h1,h2],h3⟩
def zFp (s:List UInt8) (r:TV) (H':q8):Prop:=H'=[]∧((∃v,Lib.parseIntB 64 s=.ok v∧r=.tup [(.int .i64,.i .i64 v),(.iface,.nilifc)])∨
 (∀v,Lib.parseIntB 64 s≠.ok v)∧∃n N,r=.tup [(.int .i64,.i .i64 n),(.iface,.ifc 326 (.ptr N .other []))])
theorem zDM (w:World) (e:TypeId) (t:ByteArray) :RowKit.Below w.heap.size w (Lib.bytesWorld w e t):=by
 exact⟨rfl,rfl,rfl,by rw[Lib.bytesWorld_size];omega,fun k hk=>Lib.bytesWorld_at_old w e t k hk⟩
theorem zDK (s:List UInt8):∀imm w vs,ARs Tryz.prog (g0 imm) w [.av .str (.s s),.av (.int .i64) (.i .i64 10),.av (.int .i64) (.i .i64 64)] vs→vs=[.string ⟨s.toArray⟩,.int .i64 10,.int .i64 64]:=by
 intro imm w vs h
 match vs,h with
 | [a,b,c],⟨⟨f1,_,h1⟩,⟨f2,_,h2⟩,⟨f3,_,h3⟩,_⟩ =>
  rw[qR rfl f1]at h1
  rw[qR rfl f2]at h2
  rw[qR rfl f3]at h3
  simp at h1 h2 h3
  rw[h1,h2,h3]
theorem zFz {w:World} {n:Int} {N:Nat} (imm:Nat→Nat):AR Tryz.prog (g0 imm) w (.tup [(.int .i64,.i .i64 n),(.iface,.ifc 326 (.ptr N .other []))]) (.tuple #[.int .i64 n,.iface 326 (.pointer (some ⟨N,0,none⟩))]):=by
 refine⟨[.int .i64 n,.iface 326 (.pointer (some ⟨N,0,none⟩))],rfl,kC,⟨rfl,?_⟩,trivial⟩
 simp[VC,Value.cells,k6,TyD.isAgg,Q4]
theorem zEJ (s:List UInt8) (hs:s.length≤1000000000):q7 Tryz.prog 235 [.av .str (.s s),.av (.int .i64) (.i .i64 10),.av (.int .i64) (.i .i64 64)] [] (zFp s):=by
 by_cases hv:∃v,Lib.parseIntB 64 s=.ok v
 ·obtain⟨v,hv⟩:=hv
  refine q7.of_below (zDK s) fun imm w ht=>?_
  refine(Tryz.strconv_ParseInt_10_at64_ok ⟨s.toArray⟩ (by simp[ByteArray.size];omega) v (by simpa using hv) w).mono ?_
  rintro e w' ⟨rfl,hw⟩
  refine⟨_,_,rfl,⟨rfl,.inl ⟨v,hv,rfl⟩⟩,fun imm=>⟨[.int .i64 v,.nilIface],rfl,kC,⟨rfl,by simp[VC,Value.cells]⟩,trivial⟩,?_⟩
  rcases hw with rfl|⟨t,rfl⟩
  ·exact RowKit.Below.refl _ _
  ·exact zDM _ _ _
 ·have hne:∀v,Lib.parseIntB 64 s≠.ok v:=fun v h=>hv ⟨v,h⟩
  by_cases hr:Lib.parseIntB 64 s=.range
  ·refine q7.of_below (zDK s) fun imm w ht=>?_
   obtain⟨ev,h1,h2⟩:=zFb ht zGj
   refine(Tryz.strconv_ParseInt_10_at64_range ⟨s.toArray⟩ (by simp[ByteArray.size];omega) (by simpa using hr) ev w h1 h2).mono ?_
   rintro e w' ⟨N,rfl,_,_,hb⟩
   exact⟨_,_,rfl,⟨rfl,.inr ⟨hne,_,N,rfl⟩⟩,fun imm=>zFz imm,hb⟩
  ·have hsx:Lib.parseIntB 64 s=Lib.parseIntB 64 []:=by
    cases hx:Lib.parseIntB 64 s<;>first|exact absurd hx hr|rfl|exact absurd hx (hne _)
   refine q7.of_below (zDK s) fun imm w ht=>?_
   obtain⟨ev,h1,h2⟩:=zFb ht zGi
   refine(Tryz.strconv_ParseInt_10_at64_syntax ⟨s.toArray⟩ (by simp[ByteArray.size];omega) (by simpa using hsx) ev w h1 h2).mono ?_
   rintro e w' ⟨N,rfl,_,_,hb⟩
   exact⟨_,_,rfl,⟨rfl,.inr ⟨hne,_,N,rfl⟩⟩,fun imm=>zFz imm,hb⟩
theorem zEB {s:List UInt8} {v:Int} (hw:Lib.parseIntB 64 s=.ok v):-9223372036854775808≤v∧v≤9223372036854775807:=by
 unfold Lib.parseIntB at hw
 split at hw
 ·cases hw
 ·simp only at hw
  split at hw
  ·cases hw
  ·cases hw
  ·split at hw
   ·cases hw
   ·split at hw
    ·cases hw
    ·rename_i h1 h2
     cases hw
     split
     ·rename_i h3
      have:¬2 ^ (64-1)<_:=fun h=>h2 ⟨h3,h⟩
      simp at this
      omega
     ·rename_i h3
      have:¬2 ^ (64-1)≤_:=fun h=>h1 ⟨h3,h⟩
      simp at this
      omega
theorem zGd (s:List UInt8) (hs:s.length≤1000000000):PC Tryz.prog 208 [.av .str (.s s)] (zDO (zDD s)):=by
 refine zow Tryz.func208 cf0 fun imm0 w0=>?_
 simp (disch:=omega) [zz]
 refine jP (R:=zFp s) rfl (by simp[qQ]) (by simp) ?_ ?_
 ·exact q7.args (by simpa[q8.er_nil]using zEJ s hs) (by simp[qS,TV.er,AV.er,coC])
 rintro r H' ⟨rfl,⟨v,hv,rfl⟩|⟨hne,n,N,rfl⟩⟩
 ·have hi:zDD s=if Lib.itoa v=s then some v else none:=by unfold zDD;rw[hv]
  obtain⟨hv0,hv1⟩:=zEB hv
  simp (disch:=omega) [zz]
  refine zcv (zFF v hv0 hv1) ?_
  by_cases hq:Lib.itoa v=s
  ·rw[if_pos hq]at hi
   simp (disch:=omega) [zz,hq,hi,Tryz.f208,zDO]
  ·rw[if_neg hq]at hi
   simp (disch:=omega) [zz,hq,hi,Tryz.f208,zDO]
 ·have hi:zDD s=none:=by
   unfold zDD
   split
   ·rename_i v hv;exact absurd hv (hne v)
   ·rfl
  simp (disch:=omega) [zz,Tryz.f208,hi,zDO]
end Go.Proofs.YtcioeonlclpacaaGreatDoor
