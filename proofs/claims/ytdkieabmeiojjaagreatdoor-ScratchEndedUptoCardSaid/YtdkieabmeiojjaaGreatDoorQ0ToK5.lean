/- Numbers as texts. No condition. -/
import Derived.Test.YtdkieabmeiojjaaGreatDoorShelf
import Derived.Test.YtdkieabmeiojjaaGreatDoorKIToK4
set_option linter.unusedSimpArgs false
set_option linter.unusedVariables false
set_option linter.unusedSectionVars false
section
set_option maxRecDepth 100000
namespace Go.Proofs.YtdkieabmeiojjaaGreatDoor
open Go Go.Ab
open Classical
open Go.Sort (grow)
section
variable [Sel] [SelPow]
theorem PC.of_grow {P:Program} {f:FuncId} {args:List TV} {vs0:List Value} {r:TV} {v:Value} (hdet:∀imm w vs,ARs P (g0 imm) w args vs->vs=vs0) (hr:∀imm w,AR P (g0 imm) w r v)
  (h:∀imm w,XH P imm w->Calls P f vs0.toArray w fun e w'=>e=.returned v/\∃k os,w'=grow (w.drewN k) os):PC P f args r:=by
 intro imm w vs hrep hargs
 have:=hdet imm w vs.toList hargs
 have hv:vs=vs0.toArray:=by rw[<-this]
 subst hv
 refine(h imm w hrep.tab).mono ?_
 rintro e w' ⟨rfl,k,os,rfl⟩
 have hlt:∀(b:Nat) (o:Obj),w.heap[b]?=some o->(grow (w.drewN k) os).heap[b]?=some o:=by
  intro b o hb
  have h1:=(Array.getElem?_eq_some_iff.1 hb).1
  show (w.heap++os)[b]?=some o
  rw[Array.getElem?_append_left h1];exact hb
 have hk:zX (g0 imm) w (grow (w.drewN k) os):=fun b cs E fz _ hb=>⟨cs,E,fz,hlt _ _ hb,rfl,fun _ _=>rfl⟩
 refine⟨v,r,imm,[],rfl,⟨rfl,rfl⟩,hr _ _,⟨fun b hb=>?_,by simp[q8.keys],by simp,hrep.tab.keep (g:=g0 imm) (g':=g0 imm) (Gh.le_refl _) hrep.imm hk⟩,?_⟩
 ·obtain⟨cs,E,fz,h1,h2⟩:=hrep.imm b hb
  exact⟨cs,E,fz,hlt _ _ h1,h2⟩
 ·exact {
   os:=rfl,tape:=rfl,output:=rfl,drawn:=fun _=>by show w.drawn<=w.drawn+k;omega
   size:=by show w.heap.size<=(w.heap++os).size;simp
   frame:=fun b hb _=>⟨by show (w.heap++os)[b]?=_;rw[Array.getElem?_append_left hb],rfl⟩
   imm:=fun _=>Nat.le_refl _
   kept:=fun b cs E fz h0 hb=>hk b cs E fz h0 hb
   dom:=fun b hb=>by simp[q8.keys]at hb }
theorem zlg {P:Program} {g:Gh} {w:World} {e:TypeId}:∀(zs:List Int) (cs:List Value),VL P g w e (zs.map (AV.i .u64 ·)) cs->cs=zs.map (Value.int .u64 ·)
 | [],cs,h=>by simpa[VL]using h
 | z::zs,cs,h=>by
  simp only[List.map_cons,VL]at h
  obtain⟨c1,c2,rfl,h1,h2⟩:=h
  have:=zlg zs c2 h2
  simp only[VC]at h1
  rw[h1.2,this];rfl
theorem zqq:Tryz.prog.globalNamed "internal/strconv.uint64pow10" = some 3:=by kernel_rfl
theorem zkP:(3,TyD.arr 20 154,AV.agg (Lib.pow10Tab.map (AV.i .u64 ·)))∈zdd Tryz.prog:=by
 have h1:q9 Tryz.prog ((Tryz.prog.globals[3]?).get (by kernel_rfl)).type=.arr 20 154:=by kernel_rfl
 rw[<-h1]
 exact zku (gl:=(Tryz.prog.globals[3]?).get (by kernel_rfl)) (by kernel_rfl) (by kernel_rfl) SelPow.pow
theorem zoY {imm:Nat->Nat} {w:World} (h:XH Tryz.prog imm w):Lib.TabIs Tryz.prog w "internal/strconv.uint64pow10" .u64 Lib.pow10Tab:=by
 obtain⟨h1,h2,h3,cs,E,fz,h4,h5⟩:=h.1 _ _ _ zkP
 have hsz:szD Tryz.prog (.arr 20 154)=20:=by simp[szD]
 rw[hsz]at h2 h5
 simp only[VC]at h2
 have hv:=zlg _ _ h2.2
 have hc:zA w 3 0 20=cs.toList:=by
  unfold zA
  rw[h4]
  simp only[List.drop_zero]
  exact List.take_of_length_le (by simp[h5])
 rw[hc]at hv
 unfold Lib.TabIs World.var?
 rw[zqq]
 simp only[Option.bind_some,h4]
 rw[<-hv]
theorem znn (n:Int) (h0:-9223372036854775808<=n) (h1:n<=9223372036854775807):PC Tryz.prog 177 [.av (.int .i64) (.i .i64 n)] (.av .str (.s (Lib.itoa n))):=by
 refine PC.of_grow (vs0:=[.int .i64 n]) (v:=.string ⟨(Lib.itoa n).toArray⟩) ?_ (fun _ _=>⟨rfl,rfl,rfl⟩) fun imm w ht=>Tryz.strconv_Itoa n h0 h1 w (zoY ht)
 intro imm w vs h
 match vs,h with
 | [a],⟨⟨f1,_,h1⟩,_⟩ =>
  rw[qF rfl f1]at h1
  simp at h1
  rw[h1]
end
end Go.Proofs.YtdkieabmeiojjaaGreatDoor
end
section
set_option maxRecDepth 100000
namespace Go.Proofs.YtdkieabmeiojjaaGreatDoor
open Go Go.Ab
open Classical
section
variable [Sel] [SelPow] [SelMax]
structure KnV where
 path:Txt
 is:Bool
 data:Txt
structure DoV where
 kind:Int
 path:Txt
 data:Txt
 why:Int
structure CmdV where
 words:List Txt
 rest:Txt
inductive ThV
 | add
 | scan (w:Txt)
inductive CoV
 | there (t:ThV)
 | tr
inductive TdV
 | cmd (c:CmdV)
 | ans (k:CoV) (p:Txt)
 | line (s w:Txt)
structure qG where
 todo:List TdV
 env:List (Txt × Txt)
 buf:Txt
 known:List KnV
 asks:Txt
 waits:Bool
 over:DoV
 seen:List Txt
def do0:DoV:=⟨0,[],[],0⟩
def kn0:KnV:=⟨[],false,[]⟩
def j3 (l:List KnV) (p:Txt):Option KnV:=l.find? fun k=>decide (k.path=p)
def w6 (e:Int) (r:qG):qG:={ r with over:=⟨4,[],[],e⟩ }
def y6 (s:Txt) (r:qG):qG:=if 65536<r.buf.length+s.length then w6 6 r else { r with buf:=r.buf++s }
def thR:ThV->Txt->qG->qG
 | .add,d,r=>y6 d r
 | .scan w,d,r=>{ r with todo:=r.todo++(qU d).reverse.map fun s=>.line s w }
def coR:CoV->KnV->qG->qG
 | .there t,k,r=>if k.is=true then thR t k.data r else w6 10 r
 | .tr,k,r=>if k.is=true then y6 k.data r else r
def yN (p:Txt) (k:CoV) (r:qG):qG:=match j3 r.known p with
 | some x=>coR k x r
 | none=>if 500<=r.known.length then w6 6 r else { r with asks:=p,waits:=true,todo:=r.todo++[.ans k p] }
def ZD (p w:Txt) (r:qG):qG:=yN p (.there (.scan w)) { r with seen:=r.seen++[p] }
def kH (l:List Txt) (r:qG):qG:=y6 (l.flatMap (·++[10])) { r with buf:=[] }
def upB (c:UInt8):UInt8:=if 97<=c.toNat/\c.toNat<=122 then c-32 else c
def jJ:List Txt->List Txt
 | []=>[]
 | [x]=>[x]
 | x::y::r=>if x=y then jJ (y::r) else x::jJ (y::r)
noncomputable def kX (name arg:Txt) (r:qG):qG :=
 if name=wV then kH (k7 (qU r.buf)) r
 else if name=yG then kH (jJ (qU r.buf)) r
 else if name=kV then { r with buf:=r.buf.map upB }
 else if name=wC then { r with buf:=Lib.itoa (qU r.buf).length++[10] }
 else if name=y3 then kH ((qU r.buf).filter fun s=>Lib.contains s arg) r
 else r
noncomputable def doR (c:CmdV) (r:qG):qG :=
 let w:=c.words.getD 0 []
 let arg:=c.words.getD 1 []
 if w=zU then yN arg (.there .add) r
 else if w=wF then yN arg .tr r
 else if w=jM then ZD arg (c.words.getD 2 []) { r with seen:=[] }
 else if w=jZ then y6 (c.rest++[10]) r
 else if w=Q3 then(match r.env.find? fun x=>decide (x.1=arg)with
  | some x=>y6 x.2 r
  | none=>w6 10 r)
 else if w=jN then { r with over:=⟨2,arg,r.buf,0⟩,buf:=[] }
 else if w=kF then(if (qU r.buf).any (fun s=>Lib.contains s arg)=true then r else w6 15 r)
 else if w=QF then w6 15 r
 else kX w arg r
def QP (s w:Txt) (r:qG):qG :=
 match zG s with
 | [a,p]=>if a≠w\/w5 p=false then y6 (s++[10]) r else if p∈r.seen then r else ZD p w r
 | _=>y6 (s++[10]) r
noncomputable def tdR:TdV->qG->qG
 | .cmd c,r=>doR c r
 | .ans k p,r=>coR k ((j3 r.known p).getD kn0) r
 | .line s w,r=>QP s w r
noncomputable def yX (r:qG):qG:=match r.todo.getLast? with
 | none=>{ r with over:=⟨3,[],[],0⟩ }
 | some t=>tdR t { r with todo:=r.todo.dropLast }
def kE (r:qG):Bool:=decide (r.over.kind≠0)||r.waits
noncomputable def runN:Nat->qG->Option qG
 | 0,_=>none
 | n+1,r=>if kE r=true then some r else runN n (yX r)
def ZA (s:Txt):Option (Option CmdV):=match zG s with
 | []=>some none
 | w::ws=>if w.head?=some 35 then some none
  else if w=jZ then some (some ⟨[w],(s.drop ((Lib.index s jZ).toNat+4)).drop 1⟩)
  else if (jI w).1≠(ws.length:Int)+1\/(jI w).1=0\/((jI w).2=true/\w5 (ws.getD 0 [])=false) then none
  else some (some ⟨w::ws,[]⟩)
def yF:Nat->List Txt->Except Nat (List CmdV)
 | _,[]=>.ok []
 | i,s::r=>match ZA s with
  | none=>.error (i+1)
  | some none=>yF (i+1) r
  | some (some c)=>match yF (i+1) r with
   | .ok l=>.ok (c::l)
   | .error e=>.error e
def zL (t:Txt):Except (Int × Nat) (List CmdV) :=
 if 65536<t.length\/400<(qU t).length then .error (6,0) else match yF 0 (qU t)with
 | .ok l=>.ok l
 | .error n=>.error (3,n)
end
end Go.Proofs.YtdkieabmeiojjaaGreatDoor
end
