/- Numbers of texts: the program takes one apart. No condition. -/
import Derived.Test.YtognnffjdckalaaGreatDoorH3ToP45
import Derived.Test.YtognnffjdckalaaGreatDoorShelf2
set_option linter.unusedSimpArgs false
set_option linter.unusedVariables false
set_option linter.unusedSectionVars false
set_option maxRecDepth 100000
namespace Go.Proofs.YtognnffjdckalaaGreatDoor
open Go Go.Ab
open Classical
variable [Sel] [SelPow] [SelErr]
theorem q6.of_below {P:Program} {f:FuncId} {args:List TV} {vs0:List Value} {R:TV->q7->Prop} (hdet:∀imm w vs,ARs P (g0 imm) w args vs->vs=vs0)
  (h:∀imm w,XD P imm w->Calls P f vs0.toArray w fun e w'=>∃v r,e=.returned v/\R r []/\(∀imm,AR P (g0 imm) w' r v)/\RowKit.Below w.heap.size w w'):q6 P f args [] R:=by
 intro imm w vs hrep hargs
 have:=hdet imm w vs.toList hargs
 have hv:vs=vs0.toArray:=by rw[<-this]
 subst hv
 refine(h imm w hrep.tab).mono ?_
 rintro e w' ⟨v,r,rfl,hR,hr,hb⟩
 have hlt:∀(b:Nat) (o:Obj),w.heap[b]?=some o->w'.heap[b]?=some o:=by
  intro b o hbo
  have h1:=(Array.getElem?_eq_some_iff.1 hbo).1
  rw[hb.block b h1];exact hbo
 have hk:zS (g0 imm) w w':=fun b cs E fz _ hbo=>⟨cs,E,fz,hlt _ _ hbo,rfl,fun _ _=>rfl⟩
 refine⟨v,r,imm,[],rfl,hR,hr _,⟨fun b hbo=>?_,by simp[q7.keys],by simp,hrep.tab.keep (g:=g0 imm) (g':=g0 imm) (Gh.le_refl _) hrep.imm hk⟩,?_⟩
 ·obtain⟨cs,E,fz,h1,h2⟩:=hrep.imm b hbo
  exact⟨cs,E,fz,hlt _ _ h1,h2⟩
 ·exact {
   os:=hb.os,tape:=hb.tape,output:=hb.output
   size:=hb.size
   frame:=fun b hbo _=>⟨hb.block b hbo,rfl⟩
   imm:=fun _=>Nat.le_refl _
   kept:=fun b cs E fz h0 hbo=>hk b cs E fz h0 hbo
   dom:=fun b hbo=>by simp[q7.keys]at hbo
   drawn:=fun hd=>by rw[SelErr.nod]at hd;cases hd }
theorem zql {n:Nat} {nm:String} (h:(Tryz.prog.globals[n]?).map (·.name)=some nm) (hn:nm = "strconv.ErrSyntax"\/nm = "strconv.ErrRange") (ho:Sel.on nm=true):n∈JD Tryz.prog:=by
 cases e:Tryz.prog.globals[n]? with
 | none=>rw[e]at h;cases h
 | some gl =>
  rw[e]at h
  obtain rfl:gl.name=nm:=Option.some.inj h
  exact zf4 e hn ho
theorem zs9:4∈JD Tryz.prog:=zql (nm:="strconv.ErrSyntax") (by kernel_rfl) (.inl rfl) SelErr.syn
theorem zrJ:5∈JD Tryz.prog:=zql (nm:="strconv.ErrRange") (by kernel_rfl) (.inr rfl) SelErr.rng
theorem ziG {imm:Nat->Nat} {w:World} (h:XD Tryz.prog imm w) {n:Nat} (hn:n∈JD Tryz.prog):∃ev,w.cell? ⟨n,0,none⟩=some ev/\(ev=.nilIface\/∃te pe,ev=.iface te pe):=by
 obtain⟨_,cs,E,fz,v,h1,h2,h3⟩:=h.2.1 n hn
 exact⟨v,by simp[World.cell?,h1,h2],h3⟩
def zmF (s:List UInt8) (r:TV) (H':q7):Prop:=H'=[]/\((∃v,Lib.parseIntB 64 s=.ok v/\r=.tup [(.int .i64,.i .i64 v),(.iface,.nilifc)])\/
 (∀v,Lib.parseIntB 64 s≠.ok v)/\∃n N,r=.tup [(.int .i64,.i .i64 n),(.iface,.ifc 316 (.ptr N .other []))])
theorem pZ (w:World) (e:TypeId) (t:ByteArray) :RowKit.Below w.heap.size w (Lib.bytesWorld w e t):=by
 exact⟨rfl,rfl,rfl,by rw[Lib.bytesWorld_size];omega,fun k hk=>Lib.bytesWorld_at_old w e t k hk⟩
theorem d7 (s:List UInt8):∀imm w vs,ARs Tryz.prog (g0 imm) w [.av .str (.s s),.av (.int .i64) (.i .i64 10),.av (.int .i64) (.i .i64 64)] vs->vs=[.string ⟨s.toArray⟩,.int .i64 10,.int .i64 64]:=by
 intro imm w vs h
 match vs,h with
 | [a,b,c],⟨⟨f1,_,h1⟩,⟨f2,_,h2⟩,⟨f3,_,h3⟩,_⟩ =>
  rw[qI rfl f1]at h1
  rw[qI rfl f2]at h2
  rw[qI rfl f3]at h3
  simp at h1 h2 h3
  rw[h1,h2,h3]
theorem zoi {w:World} {n:Int} {N:Nat} (imm:Nat->Nat):AR Tryz.prog (g0 imm) w (.tup [(.int .i64,.i .i64 n),(.iface,.ifc 316 (.ptr N .other []))]) (.tuple #[.int .i64 n,.iface 316 (.pointer (some ⟨N,0,none⟩))]):=by
 refine⟨[.int .i64 n,.iface 316 (.pointer (some ⟨N,0,none⟩))],rfl,jI,⟨rfl,?_⟩,trivial⟩
 simp[VC,Value.cells,jG,TyD.isAgg,yY]
theorem zfw (s:List UInt8) (hs:s.length<=1000000000):q6 Tryz.prog 219 [.av .str (.s s),.av (.int .i64) (.i .i64 10),.av (.int .i64) (.i .i64 64)] [] (zmF s):=by
 by_cases hv:∃v,Lib.parseIntB 64 s=.ok v
 ·obtain⟨v,hv⟩:=hv
  refine q6.of_below (d7 s) fun imm w ht=>?_
  refine(Tryz.strconv_ParseInt_10_at64_ok ⟨s.toArray⟩ (by simp[ByteArray.size];omega) v (by simpa using hv) w).mono ?_
  rintro e w' ⟨rfl,hw⟩
  refine⟨_,_,rfl,⟨rfl,.inl ⟨v,hv,rfl⟩⟩,fun imm=>⟨[.int .i64 v,.nilIface],rfl,jI,⟨rfl,by simp[VC,Value.cells]⟩,trivial⟩,?_⟩
  rcases hw with rfl|⟨t,rfl⟩
  ·exact RowKit.Below.refl _ _
  ·exact pZ _ _ _
 ·have hne:∀v,Lib.parseIntB 64 s≠.ok v:=fun v h=>hv ⟨v,h⟩
  by_cases hr:Lib.parseIntB 64 s=.range
  ·refine q6.of_below (d7 s) fun imm w ht=>?_
   obtain⟨ev,h1,h2⟩:=ziG ht zrJ
   refine(Tryz.strconv_ParseInt_10_at64_range ⟨s.toArray⟩ (by simp[ByteArray.size];omega) (by simpa using hr) ev w h1 h2).mono ?_
   rintro e w' ⟨N,rfl,_,_,hb⟩
   exact⟨_,_,rfl,⟨rfl,.inr ⟨hne,_,N,rfl⟩⟩,fun imm=>zoi imm,hb⟩
  ·have hsx:Lib.parseIntB 64 s=Lib.parseIntB 64 []:=by
    cases hx:Lib.parseIntB 64 s<;>first|exact absurd hx hr|rfl|exact absurd hx (hne _)
   refine q6.of_below (d7 s) fun imm w ht=>?_
   obtain⟨ev,h1,h2⟩:=ziG ht zs9
   refine(Tryz.strconv_ParseInt_10_at64_syntax ⟨s.toArray⟩ (by simp[ByteArray.size];omega) (by simpa using hsx) ev w h1 h2).mono ?_
   rintro e w' ⟨N,rfl,_,_,hb⟩
   exact⟨_,_,rfl,⟨rfl,.inr ⟨hne,_,N,rfl⟩⟩,fun imm=>zoi imm,hb⟩
theorem zgI {s:List UInt8} {v:Int} (hw:Lib.parseIntB 64 s=.ok v):-9223372036854775808<=v/\v<=9223372036854775807:=by
 unfold Lib.parseIntB at hw
 split at hw
 ·cases hw
 ·simp only at hw
  split at hw
  ·cases hw
  ·cases hw
  ·split at hw
   ·cases hw
   ·split at hw
    ·cases hw
    ·rename_i h1 h2
     cases hw
     split
     ·rename_i h3
      have:¬2 ^ (64-1)<_:=fun h=>h2 ⟨h3,h⟩
      simp at this
      omega
     ·rename_i h3
      have:¬2 ^ (64-1)<=_:=fun h=>h1 ⟨h3,h⟩
      simp at this
      omega
theorem zqK (s:List UInt8) (hs:s.length<=1000000000):PC Tryz.prog 188 [.av .str (.s s)] (yU (YF s)):=by
 refine zow Tryz.func188 cf0 fun imm0 w0=>?_
 simp (disch:=omega) [zz]
 refine zF (R:=zmF s) rfl (by simp[qH]) (by simp) ?_ ?_
 ·exact q6.args (by simpa[q7.er_nil]using zfw s hs) (by simp[q9,TV.er,AV.er,coC])
 rintro r H' ⟨rfl,⟨v,hv,rfl⟩|⟨hne,n,N,rfl⟩⟩
 ·have hi:YF s=if Lib.itoa v=s then some v else none:=by unfold YF;rw[hv]
  obtain⟨hv0,hv1⟩:=zgI hv
  simp (disch:=omega) [zz]
  refine zcv (zlt v hv0 hv1) ?_
  by_cases hq:Lib.itoa v=s
  ·rw[if_pos hq]at hi
   simp (disch:=omega) [zz,hq,hi,Tryz.f188,yU]
  ·rw[if_neg hq]at hi
   simp (disch:=omega) [zz,hq,hi,Tryz.f188,yU]
 ·have hi:YF s=none:=by
   unfold YF
   split
   ·rename_i v hv;exact absurd hv (hne v)
   ·rfl
  simp (disch:=omega) [zz,Tryz.f188,hi,yU]
end Go.Proofs.YtognnffjdckalaaGreatDoor
