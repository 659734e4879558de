/- Numbers as texts. No condition. -/
import Derived.Test.YtfkcpballfhddaaGreatDoorShelf
import Derived.Test.YtfkcpballfhddaaGreatDoorKIToK4
set_option linter.unusedSimpArgs false
set_option linter.unusedVariables false
set_option linter.unusedSectionVars false
section
set_option maxRecDepth 100000
namespace Go.Proofs.YtfkcpballfhddaaGreatDoor
open Go Go.Ab
open Classical
open Go.Sort (grow)
section
variable [Sel] [SelPow]
theorem PC.of_grow {P:Program} {f:FuncId} {args:List TV} {vs0:List Value} {r:TV} {v:Value} (hdet:∀imm w vs,ARs P (g0 imm) w args vs->vs=vs0) (hr:∀imm w,AR P (g0 imm) w r v)
  (h:∀imm w,UA P imm w->Calls P f vs0.toArray w fun e w'=>e=.returned v/\∃k os,w'=grow (w.drewN k) os):PC P f args r:=by
 intro imm w vs hrep hargs
 have:=hdet imm w vs.toList hargs
 have hv:vs=vs0.toArray:=by rw[<-this]
 subst hv
 refine(h imm w hrep.tab).mono ?_
 rintro e w' ⟨rfl,k,os,rfl⟩
 have hlt:∀(b:Nat) (o:Obj),w.heap[b]?=some o->(grow (w.drewN k) os).heap[b]?=some o:=by
  intro b o hb
  have h1:=(Array.getElem?_eq_some_iff.1 hb).1
  show (w.heap++os)[b]?=some o
  rw[Array.getElem?_append_left h1];exact hb
 have hk:jP (g0 imm) w (grow (w.drewN k) os):=fun b cs E fz _ hb=>⟨cs,E,fz,hlt _ _ hb,rfl,fun _ _=>rfl⟩
 refine⟨v,r,imm,[],rfl,⟨rfl,rfl⟩,hr _ _,⟨fun b hb=>?_,by simp[q8.keys],by simp,hrep.tab.keep (g:=g0 imm) (g':=g0 imm) (Gh.le_refl _) hrep.imm hk⟩,?_⟩
 ·obtain⟨cs,E,fz,h1,h2⟩:=hrep.imm b hb
  exact⟨cs,E,fz,hlt _ _ h1,h2⟩
 ·exact {
   os:=rfl,tape:=rfl,output:=rfl,drawn:=fun _=>by show w.drawn<=w.drawn+k;omega
   size:=by show w.heap.size<=(w.heap++os).size;simp
   frame:=fun b hb _=>⟨by show (w.heap++os)[b]?=_;rw[Array.getElem?_append_left hb],rfl⟩
   imm:=fun _=>Nat.le_refl _
   kept:=fun b cs E fz h0 hb=>hk b cs E fz h0 hb
   dom:=fun b hb=>by simp[q8.keys]at hb }
theorem zn7 {P:Program} {g:Gh} {w:World} {e:TypeId}:∀(zs:List Int) (cs:List Value),VL P g w e (zs.map (AV.i .u64 ·)) cs->cs=zs.map (Value.int .u64 ·)
 | [],cs,h=>by simpa[VL]using h
 | z::zs,cs,h=>by
  simp only[List.map_cons,VL]at h
  obtain⟨c1,c2,rfl,h1,h2⟩:=h
  have:=zn7 zs c2 h2
  simp only[VC]at h1
  rw[h1.2,this];rfl
theorem ztD:Tryz.prog.globalNamed "internal/strconv.uint64pow10" = some 3:=by kernel_rfl
theorem zn2:(3,TyD.arr 20 128,AV.agg (Lib.pow10Tab.map (AV.i .u64 ·)))∈zf3 Tryz.prog:=by
 have h1:q9 Tryz.prog ((Tryz.prog.globals[3]?).get (by kernel_rfl)).type=.arr 20 128:=by kernel_rfl
 rw[<-h1]
 exact zny (gl:=(Tryz.prog.globals[3]?).get (by kernel_rfl)) (by kernel_rfl) (by kernel_rfl) SelPow.pow
theorem zsb {imm:Nat->Nat} {w:World} (h:UA Tryz.prog imm w):Lib.TabIs Tryz.prog w "internal/strconv.uint64pow10" .u64 Lib.pow10Tab:=by
 obtain⟨h1,h2,h3,cs,E,fz,h4,h5⟩:=h.1 _ _ _ zn2
 have hsz:szD Tryz.prog (.arr 20 128)=20:=by simp[szD]
 rw[hsz]at h2 h5
 simp only[VC]at h2
 have hv:=zn7 _ _ h2.2
 have hc:zU w 3 0 20=cs.toList:=by
  unfold zU
  rw[h4]
  simp only[List.drop_zero]
  exact List.take_of_length_le (by simp[h5])
 rw[hc]at hv
 unfold Lib.TabIs World.var?
 rw[ztD]
 simp only[Option.bind_some,h4]
 rw[<-hv]
theorem zoV (n:Int) (h0:-9223372036854775808<=n) (h1:n<=9223372036854775807):PC Tryz.prog 172 [.av (.int .i64) (.i .i64 n)] (.av .str (.s (Lib.itoa n))):=by
 refine PC.of_grow (vs0:=[.int .i64 n]) (v:=.string ⟨(Lib.itoa n).toArray⟩) ?_ (fun _ _=>⟨rfl,rfl,rfl⟩) fun imm w ht=>Tryz.strconv_Itoa n h0 h1 w (zsb ht)
 intro imm w vs h
 match vs,h with
 | [a],⟨⟨f1,_,h1⟩,_⟩ =>
  rw[qK rfl f1]at h1
  simp at h1
  rw[h1]
end
end Go.Proofs.YtfkcpballfhddaaGreatDoor
end
section
set_option maxRecDepth 100000
namespace Go.Proofs.YtfkcpballfhddaaGreatDoor
open Go Go.Ab
open Classical
section
variable [Sel] [SelPow] [SelMax]
structure KnV where
 path:Txt
 is:Bool
 data:Txt
structure DoV where
 kind:Int
 path:Txt
 data:Txt
 why:Int
structure CmdV where
 words:List Txt
 rest:Txt
inductive ThV
 | add
 | scan (w:Txt)
inductive CoV
 | there (t:ThV)
 | tr
inductive TdV
 | cmd (c:CmdV)
 | ans (k:CoV) (p:Txt)
 | line (s w:Txt)
structure qN where
 todo:List TdV
 env:List (Txt × Txt)
 buf:Txt
 known:List KnV
 asks:Txt
 waits:Bool
 over:DoV
 seen:List Txt
def do0:DoV:=⟨0,[],[],0⟩
def kn0:KnV:=⟨[],false,[]⟩
def jR (l:List KnV) (p:Txt):Option KnV:=l.find? fun k=>decide (k.path=p)
def wY (e:Int) (r:qN):qN:={ r with over:=⟨4,[],[],e⟩ }
def yS (s:Txt) (r:qN):qN:=if 65536<r.buf.length+s.length then wY 6 r else { r with buf:=r.buf++s }
def thR:ThV->Txt->qN->qN
 | .add,d,r=>yS d r
 | .scan w,d,r=>{ r with todo:=r.todo++(qZ d).reverse.map fun s=>.line s w }
def coR:CoV->KnV->qN->qN
 | .there t,k,r=>if k.is=true then thR t k.data r else wY 10 r
 | .tr,k,r=>if k.is=true then yS k.data r else r
def QT (p:Txt) (k:CoV) (r:qN):qN:=match jR r.known p with
 | some x=>coR k x r
 | none=>if 500<=r.known.length then wY 6 r else { r with asks:=p,waits:=true,todo:=r.todo++[.ans k p] }
def JL (p w:Txt) (r:qN):qN:=QT p (.there (.scan w)) { r with seen:=r.seen++[p] }
def wB (l:List Txt) (r:qN):qN:=yS (l.flatMap (·++[10])) { r with buf:=[] }
def upB (c:UInt8):UInt8:=if 97<=c.toNat/\c.toNat<=122 then c-32 else c
def kH:List Txt->List Txt
 | []=>[]
 | [x]=>[x]
 | x::y::r=>if x=y then kH (y::r) else x::kH (y::r)
noncomputable def wV (name arg:Txt) (r:qN):qN :=
 if name=zR then wB (kU (qZ r.buf)) r
 else if name=zW then wB (kH (qZ r.buf)) r
 else if name=qY then { r with buf:=r.buf.map upB }
 else if name=z7 then { r with buf:=Lib.itoa (qZ r.buf).length++[10] }
 else if name=zS then wB ((qZ r.buf).filter fun s=>Lib.contains s arg) r
 else r
noncomputable def doR (c:CmdV) (r:qN):qN :=
 let w:=c.words.getD 0 []
 let arg:=c.words.getD 1 []
 if w=qW then QT arg (.there .add) r
 else if w=jD then QT arg .tr r
 else if w=zC then JL arg (c.words.getD 2 []) { r with seen:=[] }
 else if w=zH then yS (c.rest++[10]) r
 else if w=jL then(match r.env.find? fun x=>decide (x.1=arg)with
  | some x=>yS x.2 r
  | none=>wY 10 r)
 else if w=qV then { r with over:=⟨2,arg,r.buf,0⟩,buf:=[] }
 else if w=zL then(if (qZ r.buf).any (fun s=>Lib.contains s arg)=true then r else wY 15 r)
 else if w=zZ then wY 15 r
 else wV w arg r
def J1 (s w:Txt) (r:qN):qN :=
 match z6 s with
 | [a,p]=>if a≠w\/jQ p=false then yS (s++[10]) r else if p∈r.seen then r else JL p w r
 | _=>yS (s++[10]) r
noncomputable def tdR:TdV->qN->qN
 | .cmd c,r=>doR c r
 | .ans k p,r=>coR k ((jR r.known p).getD kn0) r
 | .line s w,r=>J1 s w r
noncomputable def Z1 (r:qN):qN:=match r.todo.getLast? with
 | none=>{ r with over:=⟨3,[],[],0⟩ }
 | some t=>tdR t { r with todo:=r.todo.dropLast }
def w8 (r:qN):Bool:=decide (r.over.kind≠0)||r.waits
noncomputable def runN:Nat->qN->Option qN
 | 0,_=>none
 | n+1,r=>if w8 r=true then some r else runN n (Z1 r)
def JF (s:Txt):Option (Option CmdV):=match z6 s with
 | []=>some none
 | w::ws=>if w.head?=some 35 then some none
  else if w=zH then some (some ⟨[w],(s.drop ((Lib.index s zH).toNat+4)).drop 1⟩)
  else if (kG w).1≠(ws.length:Int)+1\/(kG w).1=0\/((kG w).2=true/\jQ (ws.getD 0 [])=false) then none
  else some (some ⟨w::ws,[]⟩)
def QE:Nat->List Txt->Except Nat (List CmdV)
 | _,[]=>.ok []
 | i,s::r=>match JF s with
  | none=>.error (i+1)
  | some none=>QE (i+1) r
  | some (some c)=>match QE (i+1) r with
   | .ok l=>.ok (c::l)
   | .error e=>.error e
def jB (t:Txt):Except (Int × Nat) (List CmdV) :=
 if 65536<t.length\/400<(qZ t).length then .error (6,0) else match QE 0 (qZ t)with
 | .ok l=>.ok l
 | .error n=>.error (3,n)
end
end Go.Proofs.YtfkcpballfhddaaGreatDoor
end
