/- Numbers as texts. No condition beyond each theorem's own. -/
import Derived.Test.YtcgpcfcbienapaaGreatDoorL0
import Derived.Test.YtcgpcfcbienapaaGreatDoorShelf
import Derived.Test.YtcgpcfcbienapaaGreatDoorKIToK4
set_option linter.unusedSimpArgs false
set_option linter.unusedVariables false
set_option linter.unusedSectionVars false
section
set_option maxRecDepth 100000
namespace Go.Proofs.YtcgpcfcbienapaaGreatDoor
open Go Go.Ab
open Classical
variable [Sel] [SelPow]
open Go.Sort (grow)
theorem PC.of_grow {P:Program} {f:FuncId} {args:List TV} {vs0:List Value} {r:TV} {v:Value} (hdet:∀imm w vs,ARs P (g0 imm) w args vs→vs=vs0) (hr:∀imm w,AR P (g0 imm) w r v)
  (h:∀imm w,xV P imm w→Calls P f vs0.toArray w fun e w'=>e=.returned v∧∃k os,w'=grow (w.drewN k) os):PC P f args r:=by
 intro imm w vs hrep hargs
 have:=hdet imm w vs.toList hargs
 have hv:vs=vs0.toArray:=by rw[←this]
 subst hv
 refine(h imm w hrep.tab).mono ?_
 rintro e w' ⟨rfl,k,os,rfl⟩
 have hlt:∀(b:Nat) (o:Obj),w.heap[b]?=some o→(grow (w.drewN k) os).heap[b]?=some o:=by
  intro b o hb
  have h1:=(Array.getElem?_eq_some_iff.1 hb).1
  show (w.heap++os)[b]?=some o
  rw[Array.getElem?_append_left h1];exact hb
 have hk:jH (g0 imm) w (grow (w.drewN k) os):=fun b cs E fz _ hb=>⟨cs,E,fz,hlt _ _ hb,rfl,fun _ _=>rfl⟩
 refine⟨v,r,imm,[],rfl,⟨rfl,rfl⟩,hr _ _,⟨fun b hb=>?_,by simp[q8.keys],by simp,hrep.tab.keep (g:=g0 imm) (g':=g0 imm) (Gh.le_refl _) hrep.imm hk⟩,?_⟩
 ·obtain⟨cs,E,fz,h1,h2⟩:=hrep.imm b hb
  exact⟨cs,E,fz,hlt _ _ h1,h2⟩
 ·exact {
   os:=rfl,tape:=rfl,output:=rfl,drawn:=fun _=>by show w.drawn≤w.drawn+k;omega
   size:=by show w.heap.size≤(w.heap++os).size;simp
   frame:=fun b hb _=>⟨by show (w.heap++os)[b]?=_;rw[Array.getElem?_append_left hb],rfl⟩
   imm:=fun _=>Nat.le_refl _
   kept:=fun b cs E fz h0 hb=>hk b cs E fz h0 hb
   dom:=fun b hb=>by simp[q8.keys]at hb }
theorem zk7 {P:Program} {g:Gh} {w:World} {e:TypeId}:∀(zs:List Int) (cs:List Value),VL P g w e (zs.map (AV.i .u64 ·)) cs→cs=zs.map (Value.int .u64 ·)
 | [],cs,h=>by simpa[VL]using h
 | z::zs,cs,h=>by
  simp only[List.map_cons,VL]at h
  obtain⟨c1,c2,rfl,h1,h2⟩:=h
  have:=zk7 zs c2 h2
  simp only[VC]at h1
  rw[h1.2,this];rfl
theorem zrt:Tryz.prog.globalNamed "internal/strconv.uint64pow10" = some 0:=by kernel_rfl
theorem ziP:(0,TyD.arr 20 127,AV.agg (Lib.pow10Tab.map (AV.i .u64 ·)))∈zcT Tryz.prog:=by
 have h1:qD Tryz.prog ((Tryz.prog.globals[0]?).get (by kernel_rfl)).type=.arr 20 127:=by kernel_rfl
 rw[←h1]
 exact zhZ (gl:=(Tryz.prog.globals[0]?).get (by kernel_rfl)) (by kernel_rfl) (by kernel_rfl) SelPow.pow
theorem zpy {imm:Nat→Nat} {w:World} (h:xV Tryz.prog imm w):Lib.TabIs Tryz.prog w "internal/strconv.uint64pow10" .u64 Lib.pow10Tab:=by
 obtain⟨h1,h2,h3,cs,E,fz,h4,h5⟩:=h.1 _ _ _ ziP
 have hsz:szD Tryz.prog (.arr 20 127)=20:=by simp[szD]
 rw[hsz]at h2 h5
 simp only[VC]at h2
 have hv:=zk7 _ _ h2.2
 have hc:zP w 0 0 20=cs.toList:=by
  unfold zP
  rw[h4]
  simp only[List.drop_zero]
  exact List.take_of_length_le (by simp[h5])
 rw[hc]at hv
 unfold Lib.TabIs World.var?
 rw[zrt]
 simp only[Option.bind_some,h4]
 rw[←hv]
@[simp] theorem zAy:qZ Tryz.prog 84=true:=by kernel_rfl
@[simp] theorem zBm:z8 Tryz.prog (.func 84)=false:=q9 zAy
@[simp] theorem znD:qZ Tryz.prog 86=true:=by kernel_rfl
@[simp] theorem zrq:z8 Tryz.prog (.func 86)=false:=q9 znD
@[simp] theorem zyq:qZ Tryz.prog 49=true:=by kernel_rfl
@[simp] theorem zyC:z8 Tryz.prog (.func 49)=false:=q9 zyq
theorem zEw (n:Int) (h0:-9223372036854775808≤n) (h1:n≤9223372036854775807):PC Tryz.prog 84 [.av (.int .i64) (.i .i64 n),.av (.int .i64) (.i .i64 10)] (.av .str (.s (Lib.itoa n))):=by
 refine PC.of_grow (vs0:=[.int .i64 n,.int .i64 10]) (v:=.string ⟨(Lib.itoa n).toArray⟩) ?_ (fun _ _=>⟨rfl,rfl,rfl⟩) fun imm w ht=>Tryz.strconv_FormatInt_10 n h0 h1 w (zpy ht)
 intro imm w vs h
 match vs,h with
 | [a,b],⟨⟨f1,_,h1⟩,⟨f2,_,h2⟩,_⟩ =>
  rw[qR rfl f1]at h1
  rw[qR rfl f2]at h2
  simp at h1 h2
  rw[h1,h2]
theorem zlV (n:Int) (h0:-9223372036854775808≤n) (h1:n≤9223372036854775807):PC Tryz.prog 86 [.av (.int .i64) (.i .i64 n)] (.av .str (.s (Lib.itoa n))):=by
 refine PC.of_grow (vs0:=[.int .i64 n]) (v:=.string ⟨(Lib.itoa n).toArray⟩) ?_ (fun _ _=>⟨rfl,rfl,rfl⟩) fun imm w ht=>Tryz.strconv_Itoa n h0 h1 w (zpy ht)
 intro imm w vs h
 match vs,h with
 | [a],⟨⟨f1,_,h1⟩,_⟩ =>
  rw[qR rfl f1]at h1
  simp at h1
  rw[h1]
theorem zFF (n:Int) (h0:-9223372036854775808≤n) (h1:n≤9223372036854775807):PC Tryz.prog 49 [.av (.int .i64) (.i .i64 n)] (.av .str (.s (Lib.itoa n))):=by
 refine zow Tryz.func49 cf0 fun imm0 w0=>?_
 simp (disch:=omega) [zz]
 refine qL (zEw n h0 h1) rfl rfl (by simp) (by simp[qS,TV.er,AV.er,coC]) ?_
 simp (disch:=omega) [zz,Tryz.f49]
end Go.Proofs.YtcgpcfcbienapaaGreatDoor
end
section
set_option maxRecDepth 100000
namespace Go.Proofs.YtcgpcfcbienapaaGreatDoor
open Go Go.Ab
open Classical
variable [Sel] [SelPow] [SelMax]
abbrev Txt:=List UInt8
structure KnV where
 path:Txt
 is:Bool
 data:Txt
structure DoV where
 kind:Int
 path:Txt
 data:Txt
 why:Int
structure CmdV where
 words:List Txt
 rest:Txt
inductive ThV
 | add
 | scan (w:Txt)
inductive CoV
 | there (t:ThV)
 | tr
inductive TdV
 | cmd (c:CmdV)
 | ans (k:CoV) (p:Txt)
 | line (s w:Txt)
structure zCT where
 todo:List TdV
 env:List (Txt × Txt)
 buf:Txt
 known:List KnV
 asks:Txt
 waits:Bool
 over:DoV
 seen:List Txt
def do0:DoV:=⟨0,[],[],0⟩
def kn0:KnV:=⟨[],false,[]⟩
def zQ (l:List KnV) (p:Txt):Option KnV:=l.find? fun k=>decide (k.path=p)
def wC (e:Int) (r:zCT):zCT:={ r with over:=⟨4,[],[],e⟩ }
def wW (s:Txt) (r:zCT):zCT:=if 65536<r.buf.length+s.length then wC 6 r else { r with buf:=r.buf++s }
def thR:ThV→Txt→zCT→zCT
 | .add,d,r=>wW d r
 | .scan w,d,r=>{ r with todo:=r.todo++(z7 d).reverse.map fun s=>.line s w }
def coR:CoV→KnV→zCT→zCT
 | .there t,k,r=>if k.is=true then thR t k.data r else wC 10 r
 | .tr,k,r=>if k.is=true then wW k.data r else r
def Q6 (p:Txt) (k:CoV) (r:zCT):zCT:=match zQ r.known p with
 | some x=>coR k x r
 | none=>if 500≤r.known.length then wC 6 r else { r with asks:=p,waits:=true,todo:=r.todo++[.ans k p] }
def ZL (p w:Txt) (r:zCT):zCT:=Q6 p (.there (.scan w)) { r with seen:=r.seen++[p] }
def kS (l:List Txt) (r:zCT):zCT:=wW (l.flatMap (·++[10])) { r with buf:=[] }
def upB (c:UInt8):UInt8:=if 97≤c.toNat∧c.toNat≤122 then c-32 else c
def kF:List Txt→List Txt
 | []=>[]
 | [x]=>[x]
 | x::y::r=>if x=y then kF (y::r) else x::kF (y::r)
noncomputable def kK (l:List Txt):List Txt:=l.mergeSort fun a b=>decide (a≤b)
noncomputable def wK (name arg:Txt) (r:zCT):zCT :=
 if name=wP then kS (kK (z7 r.buf)) r
 else if name=y4 then kS (kF (z7 r.buf)) r
 else if name=kV then { r with buf:=r.buf.map upB }
 else if name=kY then { r with buf:=Lib.itoa (z7 r.buf).length++[10] }
 else if name=wQ then kS ((z7 r.buf).filter fun s=>Lib.contains s arg) r
 else r
noncomputable def doR (c:CmdV) (r:zCT):zCT :=
 let w:=c.words.getD 0 []
 let arg:=c.words.getD 1 []
 if w=zZ then Q6 arg (.there .add) r
 else if w=w8 then Q6 arg .tr r
 else if w=jT then ZL arg (c.words.getD 2 []) { r with seen:=[] }
 else if w=zCX then wW (c.rest++[10]) r
 else if w=yO then(match r.env.find? fun x=>decide (x.1=arg)with
  | some x=>wW x.2 r
  | none=>wC 10 r)
 else if w=j8 then { r with over:=⟨2,arg,r.buf,0⟩,buf:=[] }
 else if w=kG then(if (z7 r.buf).any (fun s=>Lib.contains s arg)=true then r else wC 15 r)
 else if w=yR then wC 15 r
 else wK w arg r
def Z1 (s w:Txt) (r:zCT):zCT :=
 match zR s with
 | [a,p]=>if a≠w∨yV p=false then wW (s++[10]) r else if p∈r.seen then r else ZL p w r
 | _=>wW (s++[10]) r
noncomputable def tdR:TdV→zCT→zCT
 | .cmd c,r=>doR c r
 | .ans k p,r=>coR k ((zQ r.known p).getD kn0) r
 | .line s w,r=>Z1 s w r
noncomputable def QL (r:zCT):zCT:=match r.todo.getLast? with
 | none=>{ r with over:=⟨3,[],[],0⟩ }
 | some t=>tdR t { r with todo:=r.todo.dropLast }
def kL (r:zCT):Bool:=decide (r.over.kind≠0)||r.waits
noncomputable def runN:Nat→zCT→Option zCT
 | 0,_=>none
 | n+1,r=>if kL r=true then some r else runN n (QL r)
/-! ### commands of a text -/
def Z0 (s:Txt):Option (Option CmdV):=match zR s with
 | []=>some none
 | w::ws=>if w.head?=some 35 then some none
  else if w=zCX then some (some ⟨[w],(s.drop ((Lib.index s zCX).toNat+4)).drop 1⟩)
  else if (jU w).1≠(ws.length:Int)+1∨(jU w).1=0∨((jU w).2=true∧yV (ws.getD 0 [])=false) then none
  else some (some ⟨w::ws,[]⟩)
def yC:Nat→List Txt→Except Nat (List CmdV)
 | _,[]=>.ok []
 | i,s::r=>match Z0 s with
  | none=>.error (i+1)
  | some none=>yC (i+1) r
  | some (some c)=>match yC (i+1) r with
   | .ok l=>.ok (c::l)
   | .error e=>.error e
def j7 (t:Txt):Except (Int × Nat) (List CmdV) :=
 if 65536<t.length∨400<(z7 t).length then .error (6,0) else match yC 0 (z7 t)with
 | .ok l=>.ok l
 | .error n=>.error (3,n)
end Go.Proofs.YtcgpcfcbienapaaGreatDoor
end
