/- ### zero values. No condition. -/
import Derived.Test.YtfkcpballfhddaaGreatDoorAbAToF
import Derived.LaidEqlPtr
import Derived.Lib.UnsafeStr
set_option linter.unusedSimpArgs false
set_option linter.unusedVariables false
set_option linter.unusedSectionVars false
section
namespace Go.Ab
open Go
open Classical
variable [Sel]
noncomputable def zrC (op:BinOp) (k:IntKind) (a b:Int):Option (TyD × AV) :=
 match op with
 | .add=>some (.int k,.i k (k.wrap (a+b)))
 | .sub=>some (.int k,.i k (k.wrap (a-b)))
 | .mul=>some (.int k,.i k (k.wrap (a*b)))
 | .and=>some (.int k,.i k (k.wrap (BitVec.ofInt k.bits a &&& BitVec.ofInt k.bits b).toNat))
 | .or=>some (.int k,.i k (k.wrap (BitVec.ofInt k.bits a ||| BitVec.ofInt k.bits b).toNat))
 | .xor=>some (.int k,.i k (k.wrap (BitVec.ofInt k.bits a ^^^ BitVec.ofInt k.bits b).toNat))
 | .andNot=>some (.int k,.i k (k.wrap (BitVec.ofInt k.bits a &&& ~~~ BitVec.ofInt k.bits b).toNat))
 | .eql=>some (.bool,.b (decide (a=b)))
 | .neq=>some (.bool,.b (decide (a≠b)))
 | .lss=>some (.bool,.b (decide (a<b)))
 | .leq=>some (.bool,.b (decide (a<=b)))
 | .gtr=>some (.bool,.b (decide (b<a)))
 | .geq=>some (.bool,.b (decide (b<=a)))
 | _=>none

def xP:Operand->Bool
 | .const _=>true
 | _=>false

def zmj:TV->TV->Prop
 | .av .ptr (.ptr b d p),.av .ptr (.ptr b' d' p')=>b=b'/\d=d'/\p=p'
 | _,_=>False
def zsH (P:Program) (T:TypeId):Bool:=match P.underlying T with
 | some (.pointer te)=>(P.info? te).isSome
 | _=>false

noncomputable def zf1 (P:Program) (op:BinOp) (T:TypeId) (c:Bool) (x y:TV) (K:TV->Prop):Prop :=
 match asI x,asI y with
 | some (k,a),some (k',b) =>
  match op with
  | .shl=>0<=b/\K (.av (.int k) (.i k (k.wrap (a*2 ^ (min b.toNat k.bits)))))
  | .shr=>0<=b/\K (.av (.int k) (.i k (a.fdiv (2 ^ (min b.toNat k.bits)))))
  | .quo=>k=k'/\b≠0/\K (.av (.int k) (.i k (k.wrap (a.tdiv b))))
  | .rem=>k=k'/\b≠0/\K (.av (.int k) (.i k (a.tmod b)))
  | _=>k=k'/\match zrC op k a b with|some (d,r)=>K (.av d r)|none=>False
 | _,_ =>
  match asS x,asS y with
  | some a,some b =>
   match op with
   | .add=>((a.length+b.length:Nat):Int)<=9223372036854775807/\K (.av .str (.s (a++b)))
   | .eql=>K (.av .bool (.b (decide (a=b))))
   | .neq=>K (.av .bool (.b (decide (a≠b))))
   | .lss=>K (.av .bool (.b (Op.bytesLess a b)))
   | .leq=>K (.av .bool (.b (Op.bytesLess a b||decide (a=b))))
   | .gtr=>K (.av .bool (.b (!(Op.bytesLess a b||decide (a=b)))))
   | .geq=>K (.av .bool (.b (!Op.bytesLess a b)))
   | _=>False
  | _,_ =>
   match zbR x,zbR y with
   | some (n,p),some (m,q)=>zlY (q9 P T)=some n/\n=m/\if (p||q)=true then(n=.iface->c=true)/\
     match op with
     | .eql=>K (.av .bool (.b (p&&q)))
     | .neq=>K (.av .bool (.b (!(p&&q))))
     | _=>False
    else zmj x y/\zsH P T=true/\
     match op with
     | .eql=>K (.av .bool (.b true))
     | .neq=>K (.av .bool (.b false))
     | _=>False
   | _,_ =>
    match co (q9 P T) x,co (q9 P T) y with
    | some a,some b=>WX P 8 T=true/\
     match op with
     | .eql=>K (.av .bool (.b (decide (a=b))))
     | .neq=>K (.av .bool (.b (decide (a≠b))))
     | _=>False
    | _,_=>False

theorem vY {v:Value} {b:Bool} (h:dE v=some (.ptr,b)):(v=.pointer none/\b=true)\/∃a,v=.pointer (some a)/\b=false:=by
 unfold dE at h
 grind
theorem V6 {v:Value} {b:Bool} (h:dE v=some (.func,b)):(v=.nilFunc/\b=true)\/∃f x y,v=.func f x y/\b=false:=by
 unfold dE at h
 grind
theorem uW {v:Value} {b:Bool} (h:dE v=some (.iface,b)):(v=.nilIface/\b=true)\/∃f x,v=.iface f x/\b=false:=by
 unfold dE at h
 grind
theorem P9 {v:Value} {b:Bool} (h:dE v=some (.map,b)):(v=.map none/\b=true)\/∃a,v=.map (some a)/\b=false:=by
 unfold dE at h
 grind

theorem zsz {P:Program} {w:World} (d:Nat) {T:TypeId} {n:NK} {vx vy:Value} {p q:Bool} (hk:zlY (q9 P T)=some n) (hpq:(p||q)=true) (n1:dE vx=some (n,p)) (n2:dE vy=some (n,q)) :
  (Op.equalIn (d+1) T vx vy).run P w=.ok (p&&q) w:=by
 have hne:q9 P T≠.other:=by grind [zlY]
 obtain⟨u,hu,hm⟩:=qO (d:=q9 P T) rfl hne
 cases hT:q9 P T<;>rw[hT]at hk hm<;>simp only[zlY]at hk<;>cases hk<;>simp only[zP]at hm
 ·obtain⟨_,rfl⟩:=hm
  rcases vY n1 with⟨rfl,rfl⟩|⟨_,rfl,rfl⟩<;>rcases vY n2 with⟨rfl,rfl⟩|⟨_,rfl,rfl⟩ <;>
   first|(simp at hpq;done)|simp[Op.equalIn,run_underlying hu]
 ·subst hm
  rcases P9 n1 with⟨rfl,rfl⟩|⟨_,rfl,rfl⟩<;>rcases P9 n2 with⟨rfl,rfl⟩|⟨_,rfl,rfl⟩ <;>
   first|(simp at hpq;done)|simp[Op.equalIn,run_underlying hu]
 ·obtain⟨_,_,_,rfl⟩:=hm
  rcases V6 n1 with⟨rfl,rfl⟩|⟨_,_,_,rfl,rfl⟩<;>rcases V6 n2 with⟨rfl,rfl⟩|⟨_,_,_,rfl,rfl⟩ <;>
   first|(simp at hpq;done)|simp[Op.equalIn,run_underlying hu]
 ·obtain⟨_,rfl⟩:=hm
  rcases uW n1 with⟨rfl,rfl⟩|⟨_,_,rfl,rfl⟩<;>rcases uW n2 with⟨rfl,rfl⟩|⟨_,_,rfl,rfl⟩ <;>
   first|(simp at hpq;done)|simp[Op.equalIn,run_underlying hu]

theorem zbT {P:Program} {w:World} {op:BinOp} {T:TypeId} {ox oy:Operand} {vx vy:Value}
  (h1:vx=.nilIface->vy=.nilIface->(xP ox||xP oy)=true) (h2:∀a b,vx=.agg a->vy=.agg b->P.eqGuardType P.depth T=false) :
  (eqGuard op T ox oy vx vy).run P w=.ok () w:=by
 have core:∀op',op'=.eql\/op'=.neq->(eqGuard op' T ox oy vx vy).run P w=.ok () w:=by
  intro op' ho
  have e:eqGuard op' T ox oy vx vy=eqGuard .eql T ox oy vx vy:=by rcases ho with rfl|rfl<;>rfl
  rw[e]
  simp only[eqGuard,Bool.not_true,Bool.false_eq_true,if_false]
  split
  ·have:=h1 rfl rfl
   cases ox<;>cases oy<;>simp_all[xP]
  ·simp_all
  ·rfl
 cases op<;>first|rfl|simp_all|simp_all

section
variable {P:Program} (hl:laidOutB P=true) {s:St} {g:Gh} {w:World} {β:Nat->Nat}
include hl
theorem ziD {op:BinOp} {T:TypeId} {ox oy:Operand} {x y:TV} {vx vy:Value} {K:TV->Prop} (hx:TVR P s g w β x vx) (hy:TVR P s g w β y vy)
  (h:zf1 P op T (xP ox||xP oy) x y K) :
  ∃v tv,((do eqGuard op T ox oy vx vy;binOp op T vx vy):Sem Value).run P w=.ok v w/\K tv/\TVR P s g w β tv v:=by
 unfold zf1 at h
 split at h
 ·rename_i k a k' b e1 e2
  obtain rfl:=wP e1 hx
  obtain rfl:=wP e2 hy
  have hg:(eqGuard op T ox oy (.int k a) (.int k' b)).run P w=.ok () w:=by
   simp[eqGuard]
  simp only[Sem.run_bind,hg,Result.andThen_ok]
  split at h
  ·refine⟨_,_,?_,h.2,kT⟩
   simp[binOp,Op.shift,Int.not_lt.2 h.1]
  ·refine⟨_,_,?_,h.2,kT⟩
   simp[binOp,Op.shift,Int.not_lt.2 h.1]
  ·obtain⟨rfl,h0,h⟩:=h
   refine⟨_,_,?_,h,kT⟩
   simp[binOp,Op.intDiv,h0]
  ·obtain⟨rfl,h0,h⟩:=h
   refine⟨_,_,?_,h,kT⟩
   simp[binOp,Op.intDiv,h0]
  ·obtain⟨rfl,h⟩:=h
   cases op<;>simp only[zrC]at h<;>first|exact h.elim|skip
   all_goals refine⟨_,_,?_,h,(by first|exact kT|exact kB)⟩
   all_goals simp[binOp,Op.intArith,Op.intBits,Op.intCmp]
   all_goals rfl
   all_goals rfl
 ·split at h
  ·rename_i a b e1 e2
   obtain⟨x,rfl,rfl⟩:=KI e1 hx
   obtain⟨y,rfl,rfl⟩:=KI e2 hy
   have hg:(eqGuard op T ox oy (.string x) (.string y)).run P w=.ok () w:=by
    simp[eqGuard]
   simp only[Sem.run_bind,hg,Result.andThen_ok]
   split at h
   ·refine⟨.string (x++y),_,?_,h.2,?_⟩
    ·simp_all[binOp,Op.stringOp]
    ·have:=WM (P:=P) (g:=g) (w:=w) (x:=x++y)
     assumption
   all_goals first|exact h.elim|refine⟨_,_,?_,h,kB⟩
   all_goals simp[binOp,Op.stringOp,ByteArray.toList_eq]
   all_goals grind
  ·split at h
   ·rename_i n p m q e1 e2
    obtain⟨hk,rfl,h⟩:=h
    split at h
    case isFalse =>
     obtain⟨hs,hp,h⟩:=h
     obtain⟨b,d,pp,rfl,rfl⟩:∃b d pp,x=.av .ptr (.ptr b d pp)/\y=.av .ptr (.ptr b d pp):=by
      unfold zmj at hs
      grind
     obtain⟨fx,hx⟩:=hx
     obtain⟨fy,hy⟩:=hy
     simp only[VC]at hx hy
     obtain⟨_,o1,t1,ho1,hx⟩:=hx
     obtain⟨_,o2,t2,ho2,hy⟩:=hy
     rw[ho1]at ho2;cases ho2
     rw[qK rfl fx]at hx
     rw[qK rfl fy]at hy
     simp only[List.cons.injEq,and_true]at hx hy
     subst hx;subst hy
     unfold zsH at hp
     split at hp
     ·rename_i te hu
      obtain⟨j,hj⟩:=Option.isSome_iff_exists.1 hp
      have he:∀dd:Nat,(Op.equalIn (dd+1) T (.pointer (some ⟨b,o1,none⟩)) (.pointer (some ⟨b,o1,none⟩))).run P w=.ok true w:=fun dd=>by
       simp[Op.equalIn,run_underlying hu,sizeOf,typeInfo,hj,run_sameAddr_same]
      have hg:(eqGuard op T ox oy (.pointer (some ⟨b,o1,none⟩)) (.pointer (some ⟨b,o1,none⟩))).run P w=.ok () w:=by
       simp[eqGuard]
      simp only[Sem.run_bind,hg,Result.andThen_ok]
      split at h
      ·exact⟨.bool true,_,by simp_all[binOp,Op.equal,Op.maxDepth],h,kB⟩
      ·exact⟨.bool false,_,by simp_all[binOp,Op.equal,Op.maxDepth],h,kB⟩
      simp_all
     ·cases hp
    rename_i hpq
    obtain⟨hc,h⟩:=h
    have n1:=dO e1 hx
    have n2:=dO e2 hy
    have hg:(eqGuard op T ox oy vx vy).run P w=.ok () w:=zbT
     (fun h1 _=>by simp_all[dE]) (fun a b h1 _=>by simp_all[dE])
    simp only[Sem.run_bind,hg,Result.andThen_ok]
    have he:(Op.equal T vx vy).run P w=.ok (p&&q) w:=by
     exact zsz 9999 hk hpq n1 n2
    have hb:∀op',op'=.eql\/op'=.neq->binOp op' T vx vy=if op'=.eql then(do pure (.bool (<-Op.equal T vx vy))) else(do pure (.bool (!(<-Op.equal T vx vy)))):=by
     intro op' ho
     cases n
     ·rcases vY n1 with⟨rfl,rfl⟩|⟨_,rfl,rfl⟩<;>rcases vY n2 with⟨rfl,rfl⟩|⟨_,rfl,rfl⟩<;>rcases ho with rfl|rfl<;>rfl
     ·rcases V6 n1 with⟨rfl,rfl⟩|⟨_,_,_,rfl,rfl⟩<;>rcases V6 n2 with⟨rfl,rfl⟩|⟨_,_,_,rfl,rfl⟩<;>rcases ho with rfl|rfl<;>rfl
     ·rcases uW n1 with⟨rfl,rfl⟩|⟨_,_,rfl,rfl⟩<;>rcases uW n2 with⟨rfl,rfl⟩|⟨_,_,rfl,rfl⟩<;>rcases ho with rfl|rfl<;>rfl
     ·rcases P9 n1 with⟨rfl,rfl⟩|⟨_,rfl,rfl⟩<;>rcases P9 n2 with⟨rfl,rfl⟩|⟨_,rfl,rfl⟩<;>rcases ho with rfl|rfl<;>rfl
    split at h
    ·rw[hb _ (.inl rfl)]
     exact⟨_,_,by simp[he],h,kB⟩
    ·rw[hb _ (.inr rfl)]
     exact⟨_,_,by simp[he],h,kB⟩
    simp_all
   ·split at h
    ·rename_i a b e1 e2
     obtain⟨hcmp,h⟩:=h
     have r1:=kQ e1 hx
     have r2:=kQ e2 hy
     have he:(Op.equal T vx vy).run P w=.ok (decide (a=b)) w:=ziz hl 8 T hcmp 10000 (by omega) a b vx vy r1 r2
     have hgd:=zgw hl 8 T hcmp P.depth (by grind [Program.depth,Made.depth])
     have hg:(eqGuard op T ox oy vx vy).run P w=.ok () w:=by
      refine zbT (fun h1 _=>?_) (fun _ _ _ _=>hgd)
      subst h1
      obtain⟨f,c⟩:=r1
      cases hT:q9 P T<;>simp_all[WX,kK,Value.cells,TyD.isAgg]<;>cases a<;>simp[VC]at c
     simp only[Sem.run_bind,hg,Result.andThen_ok]
     have hb:∀op',op'=.eql\/op'=.neq->(binOp op' T vx vy).run P w=if op'=.eql then .ok (.bool (decide (a=b))) w else .ok (.bool (!decide (a=b))) w:=by
      intro op' ho
      cases hT:q9 P T with
      | bool =>
       rw[hT]at r1 r2
       obtain⟨x,rfl,rfl⟩:=cE r1
       obtain⟨y,rfl,rfl⟩:=cE r2
       rcases ho with rfl|rfl<;>simp[binOp,he]
      | int k =>
       rw[hT]at r1 r2
       obtain⟨x,rfl,rfl⟩:=zaV r1
       obtain⟨y,rfl,rfl⟩:=zaV r2
       rcases ho with rfl|rfl<;>simp[binOp,Op.intCmp]<;>(rfl)
      | str =>
       rw[hT]at r1 r2
       obtain⟨x,rfl,rfl⟩:=zc7 r1
       obtain⟨y,rfl,rfl⟩:=zc7 r2
       rcases ho with rfl|rfl<;>simp[binOp,Op.stringOp,ByteArray.toList_eq]<;>(grind)
      | struct fs =>
       obtain⟨x,rfl⟩:=QC (by rw[hT];rfl) r1
       obtain⟨y,rfl⟩:=QC (by rw[hT];rfl) r2
       rcases ho with rfl|rfl<;>simp[binOp,he]
      | arr m e =>
       obtain⟨x,rfl⟩:=QC (by rw[hT];rfl) r1
       obtain⟨y,rfl⟩:=QC (by rw[hT];rfl) r2
       rcases ho with rfl|rfl<;>simp[binOp,he]
      | _=>simp_all[WX]
     split at h
     ·refine⟨_,_,?_,h,kB⟩
      simp_all
     ·refine⟨_,_,?_,h,kB⟩
      simp_all
     simp_all
    simp_all
end
end Go.Ab
end
section
namespace Go.Ab
open Go
open Classical
variable [Sel]
def zD (P:Program):Nat->TyD->AV
 | 0,_=>.nilfn
 | _+1,.bool=>.b false
 | _+1,.int k=>.i k 0
 | _+1,.str=>.s []
 | n+1,.struct fs=>.agg (fs.map fun f=>zD P n (q9 P f))
 | n+1,.arr m e=>.agg (List.replicate m (zD P n (q9 P e)))
 | _+1,.slice _=>.sl .full []
 | _+1,.ptr=>.nilptr
 | _+1,.map _ _=>.map none
 | _+1,.func=>.nilfn
 | _+1,.iface=>.nilifc
 | _+1,.other=>.nilfn

mutual
def UG:AV->List Value
 | .b x=>[.bool x]
 | .i k n=>[.int k n]
 | .s x=>[.string ⟨x.toArray⟩]
 | .agg ps=>xY ps
 | .sl _ _=>[.slice none 0 0]
 | .nilptr=>[.pointer none]
 | .nilfn=>[.nilFunc]
 | .map _=>[.map none]
 | .nilifc=>[.nilIface]
 | _=>[]
def xY:List AV->List Value
 | []=>[]
 | x::xs=>UG x++xY xs
end
mutual
def wt (P:Program) (d:TyD):AV->Bool
 | .b _=>match d with|.bool=>true|_=>false
 | .i k _=>match d with|.int k'=>k'==k|_=>false
 | .s _=>match d with|.str=>true|_=>false
 | .agg ps=>match d with
  | .struct fs=>wtf P fs ps
  | .arr n e=>ps.length==n&&wtl P e ps
  | _=>false
 | .sl t xs=>match d,t,xs with|.slice _,.full,[]=>true|_,_,_=>false
 | .nilptr=>match d with|.ptr=>true|_=>false
 | .nilfn=>match d with|.func=>true|_=>false
 | .map r=>match d,r with|.map _ _,none=>true|_,_=>false
 | .nilifc=>match d with|.iface=>true|_=>false
 | _=>false
def wtl (P:Program) (e:TypeId):List AV->Bool
 | []=>true
 | x::xs=>wt P (q9 P e) x&&wtl P e xs
def wtf (P:Program) (fs:List TypeId):List AV->Bool
 | []=>fs.isEmpty
 | x::xs=>match fs with|f::r=>wt P (q9 P f) x&&wtf P r xs|[]=>false
end
section
variable {P:Program} {g:Gh} {w:World}
mutual
theorem za2 (x:AV) (d:TyD) (h:wt P d x=true):VC P g w d x (UG x):=by
 cases x with
 | b x=>cases d<;>simp[wt]at h;simp[VC,UG]
 | i k n=>cases d<;>simp[wt]at h;subst h;simp[VC,UG]
 | s x=>cases d<;>simp[wt]at h;simp[VC,UG]
 | agg ps =>
  cases d<;>simp[wt]at h
  ·simp only[VC,UG];exact zgf ps _ h
  ·simp only[VC,UG];exact⟨h.1,zgh ps _ h.2⟩
 | sl t xs =>
  cases d<;>cases t<;>cases xs<;>simp[wt]at h
  simp only[VC,UG]
  exact⟨_,none,0,rfl,rfl,Nat.le_refl _,.inl trivial,rfl⟩
 | nilptr=>cases d<;>simp[wt]at h;simp[VC,UG]
 | nilfn=>cases d<;>simp[wt]at h;simp[VC,UG]
 | map r=>cases d<;>cases r<;>simp[wt]at h;simp[VC,UG]
 | nilifc=>cases d<;>simp[wt]at h;simp[VC,UG]
 | _=>simp[wt]at h
theorem zgh (xs:List AV) (e:TypeId) (h:wtl P e xs=true):VL P g w e xs (xY xs):=by
 cases xs with
 | nil=>simp[VL,xY]
 | cons x xs =>
  simp[wtl]at h
  simp only[VL,xY]
  exact⟨_,_,rfl,za2 x _ h.1,zgh xs _ h.2⟩
theorem zgf (xs:List AV) (fs:List TypeId) (h:wtf P fs xs=true):VF P g w fs xs (xY xs):=by
 cases xs with
 | nil=>simp[wtf]at h;subst h;simp[VF,xY]
 | cons x xs =>
  cases fs with
  | nil=>simp[wtf]at h
  | cons f r =>
   simp[wtf]at h
   simp only[VF,xY]
   exact⟨f,r,_,_,rfl,rfl,za2 x _ h.1,zgf xs _ h.2⟩
end
end
def eqV:Value->Value->Bool
 | .bool a,.bool b=>a==b
 | .int k a,.int k' b=>decide (k=k')&&decide (a=b)
 | .string a,.string b=>a.data.toList==b.data.toList
 | .slice none 0 0,.slice none 0 0=>true
 | .pointer none,.pointer none=>true
 | .nilFunc,.nilFunc=>true
 | .map none,.map none=>true
 | .nilIface,.nilIface=>true
 | _,_=>false
theorem zro {a b:Value} (h:eqV a b=true):a=b:=by
 unfold eqV at h
 split at h<;>first|rfl|(simp at h;done)|skip
 ·simp at h;rw[h]
 ·simp at h;obtain⟨rfl,rfl⟩:=h;rfl
 ·rename_i a b
  simp at h
  obtain⟨a⟩:=a
  obtain⟨b⟩:=b
  simp at h;subst h;rfl
def zkZ:List Value->List Value->Bool
 | [],[]=>true
 | a::as,b::bs=>eqV a b&&zkZ as bs
 | _,_=>false
theorem zae:∀ {a b:List Value},zkZ a b=true->a=b
 | [],[],_=>rfl
 | a::as,b::bs,h=>by simp[zkZ]at h;rw[zro h.1,zae h.2]
 | [],_::_,h=>by grind [zkZ]
 | _::_,[],h=>by grind [zkZ]
def zT (P:Program) (T:TypeId):AV:=zD P 12 (q9 P T)
def zB (P:Program) (T:TypeId):Bool :=
 match P.info? T with
 | some i=>match i.zero with
  | some z=>(match z with|.agg _=>(q9 P T).isAgg|.tuple _=>false|_=>!(q9 P T).isAgg)&&wt P (q9 P T) (zT P T)&&zkZ (UG (zT P T)) z.cells.toList
  | none=>false
 | none=>false
theorem K9 {P:Program} {T:TypeId} (h:zB P T=true):∃z,(∀w,(zeroValue T).run P w=.ok z w)/\∀g w,VV P g w (q9 P T) (zT P T) z:=by
 unfold zB at h
 split at h
 ·rename_i i hi
  split at h
  ·rename_i z hz
   simp only[Bool.and_eq_true]at h
   refine⟨z,fun w=>?_,fun g w=>⟨?_,?_⟩⟩
   ·simp_all[zeroValue,typeInfo]
   ·grind [kK]
   grind [zae,za2]
  ·cases h
 ·cases h
def zN (P:Program) (T:TypeId):AV:=match q9 P T with
 | .slice _=>.nsl
 | _=>zT P T
theorem zs0 {P:Program} {T:TypeId} (h:zB P T=true):∃z,(∀w,(zeroValue T).run P w=.ok z w)/\∀g w,VV P g w (q9 P T) (zN P T) z:=by
 obtain⟨z,h1,h2⟩:=K9 h
 refine⟨z,h1,fun g w=>?_⟩
 cases hT:q9 P T with
 | slice e =>
  have e0:zN P T=.nsl:=by simp_all[zN]
  have e1:zT P T=.sl .full []:=by unfold zT;rw[hT];rfl
  rw[e0]
  have hv:=h2 g w
  refine⟨by rw[<-hT];exact hv.1,?_⟩
  unfold zB at h
  split at h
  ·rename_i i hi
   split at h
   ·rename_i z' hz
    simp only[Bool.and_eq_true]at h
    have hz':=h1 w
    unfold zeroValue typeInfo at hz'
    simp[hi,hz]at hz'
    have e3:=zae h.2
    rw[hz',e1]at e3
    simp only[VC]
    exact⟨e,rfl,by rw[<-e3];rfl⟩
   ·cases h
  ·cases h
 | _ =>
  simp_all[zN]
end Go.Ab
end
section
namespace Go.Ab
open Go
open Classical
variable [Sel]
def yB (P:Program) (s:St) (tv:TV) (K:TyD->AV->Prop):Prop :=
 match tv with
 | .loc k path=>match s.loc k with
  | some (d,x)=>match gK P d path,X6 x path with
   | some d',some y=>K d' y
   | _,_=>False
  | none=>False
 | .pel d x=>K d x
 | .av .ptr (.ptr b d path)=>match k8 s.H b with
  | some (.var d0 x)=>d0=d/\match gK P d path,X6 x path with
   | some d',some y=>K d' y
   | _,_=>False
  | _=>False
 | _=>False

def k7 (P:Program) (T:TypeId):Bool:=decide (0<P.cellsOf T)

def kC (P:Program) (s:St) (T:TypeId) (f:Nat) (tv:TV) (K:TV->Prop):Prop :=
 match q9 P T with
 | .struct fs=>match fs[f]? with
  | some F=>k7 P F=true/\match tv with
   | .loc k path=>match s.loc k with
    | some (d,_)=>gK P d path=some (.struct fs)/\K (.loc k (path++[f]))
    | none=>False
   | .pel d x=>d=.struct fs/\match X6 x [f]with
    | some y=>K (.pel (q9 P F) y)
    | none=>False
   | .av .ptr (.ptr b d path)=>gK P d path=some (.struct fs)/\K (.av .ptr (.ptr b d (path++[f])))
   | _=>False
  | none=>False
 | _=>False

def kP (P:Program) (s:St) (T:TypeId) (x i:TV) (K:TV->Prop):Prop :=
 match asI i with
 | none=>False
 | some (_,n) =>
  match q9 P T with
  | .slice e=>match co (.slice e) x with
   | some (.sl _ xs)=>k7 P e=true/\0<=n/\n<xs.length/\K (.pel (q9 P e) (xs.getD n.toNat .nilfn))
   | some (.msl b e' off len cap)=>k7 P e=true/\0<=n/\n<len/\(match k8 s.H b with
    | some (.var (.arr m e'') _)=>e''=e/\e'=e/\K (.av .ptr (.ptr b (.arr m e) [off+n.toNat]))
    | _=>False)
   | _=>False
  | .arr m e=>k7 P e=true/\0<=n/\n<m/\match x with
   | .loc k path=>match s.loc k with
    | some (d,_)=>gK P d path=some (.arr m e)/\K (.loc k (path++[n.toNat]))
    | none=>False
   | .pel d x=>d=.arr m e/\match x with
    | .agg ps=>K (.pel (q9 P e) (ps.getD n.toNat .nilfn))
    | _=>False
   | .av .ptr (.ptr b d path)=>gK P d path=some (.arr m e)/\K (.av .ptr (.ptr b d (path++[n.toNat])))
   | _=>False
  | _=>False

def D7 (P:Program) (T:TypeId) (x i:TV) (K:TV->Prop):Prop :=
 match asI i with
 | none=>False
 | some (_,n) =>
  match q9 P T with
  | .arr m e=>match co (.arr m e) x with
   | some (.agg ps)=>0<=n/\n<m/\K (.av (q9 P e) (ps.getD n.toNat .nilfn))
   | _=>False
  | .str=>match asS x with
   | some l=>0<=n/\n<l.length/\K (.av (.int .u8) (.i .u8 (l.getD n.toNat 0).toNat))
   | none=>False
  | _=>False

def zb3 (s:St) (lo:Option Operand) (h:Nat) (K:Nat->Nat->Prop):Prop :=
 match lo with
 | none=>K 0 h
 | some o=>match asI (ev s o)with
  | some (_,l)=>0<=l/\l<=h/\K l.toNat h
  | none=>False
def QQ (s:St) (len:Nat) (lo hi:Option Operand) (K:Nat->Nat->Prop):Prop :=
 match hi with
 | none=>zb3 s lo len K
 | some o=>match asI (ev s o)with
  | some (_,h)=>0<=h/\h<=len/\zb3 s lo h.toNat K
  | none=>False

def zjX (len cap:Nat):Option Operand->Nat
 | none=>len
 | some _=>cap
def X9 (P:Program) (s:St) (T:TypeId) (x:TV) (lo hi:Option Operand) (K:TV->Prop):Prop :=
 match q9 P T with
 | .str=>match asS x with
  | some l=>QQ s l.length lo hi fun a b=>K (.av .str (.s ((l.take b).drop a)))
  | none=>False
 | .slice e=>match co (.slice e) x with
  | some (.sl _ xs)=>k7 P e=true/\QQ s xs.length lo hi fun a b=>K (.av (.slice e) (.sl .no ((xs.take b).drop a)))
  | some (.msl b e' off len cap)=>e'=e/\k7 P e=true/\len<=cap/\QQ s (zjX len cap hi) lo hi fun l h=>K (.av (.slice e) (.msl b e (if cap=l then off else off+l) (h-l) (cap-l)))
  | some .nsl=>k7 P e=true/\QQ s 0 lo hi fun l h=>K (.av (.slice e) .nsl)
  | _=>False
 | .arr n e=>k7 P e=true/\match x with
  | .av .ptr (.ptr b d [])=>d=.arr n e/\QQ s n lo hi fun l h=>K (.av (.slice e) (.msl b e (if n=l then 0 else l) (h-l) (n-l)))
  | _=>False
 | _=>False

def X3 (P:Program) (s:St) (T:TypeId) (x:TV) (lo:Option Operand) (h m:Operand) (K:TV->Prop):Prop :=
 match q9 P T with
 | .slice e=>match co (.slice e) x with
  | some (.sl _ xs)=>k7 P e=true/\(match asI (ev s h),asI (ev s m)with
   | some (_,u),some (_,v)=>u=v/\QQ s xs.length lo (some h) fun a b=>K (.av (.slice e) (.sl .full ((xs.take b).drop a)))
   | _,_=>False)
  | _=>False
 | _=>False

/-! ### maps -/
noncomputable def yK (x:AV):List (AV × AV)->Option AV
 | []=>none
 | (k,v)::r=>if k=x then some v else yK x r
noncomputable def WG (x y:AV):List (AV × AV)->List (AV × AV)
 | []=>[(x,y)]
 | (k,v)::r=>if k=x then(x,y)::r else(k,v)::WG x y r
noncomputable def zaU (x:AV):List (AV × AV)->List (AV × AV)
 | []=>[]
 | (k,v)::r=>if k=x then r else(k,v)::zaU x r
def X2 (P:Program) (T:TypeId):Bool:=match q9 P T with
 | .bool|.int _|.str=>true
 | .arr _ e=>(match q9 P e with
  | .bool|.int _|.str=>true
  | _=>false)
 | _=>false
def XY (s:St) (k e:TypeId) (x:TV):Option (List (AV × AV)):=match co (.map k e) x with
 | some (.map none)=>some []
 | some (.map (some b))=>match k8 s.H b with
  | some (.map k' e' es)=>if k'=k/\e'=e then some es else none
  | _=>none
 | _=>none
noncomputable def xN (P:Program) (s:St) (T:TypeId) (x i:TV) (ok:Bool) (K:TV->Prop):Prop :=
 match q9 P T with
 | .map k e=>match co (q9 P k) i with
  | some y=>X2 P k=true/\zB P e=true/\match XY s k e x with
   | some es=>match yK y es with
    | some v=>K (if ok then .tup [(q9 P e,v),(.bool,.b true)] else .av (q9 P e) v)
    | none=>K (if ok then .tup [(q9 P e,zN P e),(.bool,.b false)] else .av (q9 P e) (zN P e))
   | none=>False
  | none=>False
 | _=>False

def zds (P:Program) (c x y:TV) (K:TV->Prop):Prop :=
 match asB c with
 | none=>False
 | some b=>match asB x,asB y with
  | some p,some q=>K (.av .bool (.b (if b then p else q)))
  | _,_=>(b=true->K x)/\(b=false->K y)

def unV (op:UnOp) (x:TV) (K:TV->Prop):Prop :=
 match op with
 | .not=>match asB x with
  | some b=>K (.av .bool (.b !b))
  | none=>False
 | .neg=>match asI x with
  | some (k,n)=>K (.av (.int k) (.i k (k.wrap (0-n))))
  | none=>False
 | .xor=>match asI x with
  | some (k,n)=>K (.av (.int k) (.i k (k.wrap (BitVec.ofInt k.bits (if k.signed then -1 else k.max) ^^^ BitVec.ofInt k.bits n).toNat)))
  | none=>False
 | _=>False

def bytesOf:List AV->Option (List UInt8)
 | []=>some []
 | .i _ n::r=>match bytesOf r with
  | some l=>some (UInt8.ofNat n.toNat::l)
  | none=>none
 | _=>none
def zay (P:Program) (S D:TypeId) (x:TV) (K:TV->Prop):Prop :=
 match q9 P D with
 | .int k=>match q9 P S,asI x with
  | .int _,some (_,n)=>K (.av (.int k) (.i k (k.wrap n)))
  | _,_=>False
 | .str=>match q9 P S with
  | .str=>match asS x with
   | some _=>K x
   | none=>False
  | .slice e=>q9 P e=.int .u8/\match co (.slice e) x with
   | some (.sl _ xs)=>match bytesOf xs with
    | some l=>K (.av .str (.s l))
    | none=>False
   | _=>False
  | _=>False
 | _=>False

def zbq:TV->Option AV
 | .av _ x=>some x
 | _=>none

noncomputable def zix (P:Program) (s:St) (T:TypeId) (x:TV) (K:TV->Prop):Prop :=
 match q9 P T with
 | .str=>match asS x with
  | some l=>K (.av (.int .i64) (.i .i64 l.length))
  | none=>False
 | .slice e=>match co (.slice e) x with
  | some (.sl _ xs)=>K (.av (.int .i64) (.i .i64 xs.length))
  | some (.msl _ _ _ len _)=>K (.av (.int .i64) (.i .i64 len))
  | some .nsl=>K (.av (.int .i64) (.i .i64 0))
  | _=>False
 | .arr n _=>K (.av (.int .i64) (.i .i64 n))
 | .map k e=>match XY s k e x with
  | some es=>K (.av (.int .i64) (.i .i64 es.length))
  | none=>False
 | _=>False

def zne (P:Program) (T:TypeId) (x:TV) (K:TV->Prop):Prop :=
 match q9 P T with
 | .slice e=>match co (.slice e) x with
  | some (.msl _ _ _ _ cap)=>K (.av (.int .i64) (.i .i64 cap))
  | some .nsl=>K (.av (.int .i64) (.i .i64 0))
  | _=>False
 | _=>False

def zoQ:List TV->(TV->Prop)->Prop
 | [x,y],K=>match asI x,asI y with
  | some (k,a),some (_,b)=>K (.av (.int k) (.i k (if b<a then b else a)))
  | _,_=>False
 | _,_=>False

def zoz:List TV->(TV->Prop)->Prop
 | [x,y],K=>match asI x,asI y with
  | some (k,a),some (_,b)=>K (.av (.int k) (.i k (if b > a then b else a)))
  | _,_=>False
 | _,_=>False

def zeX (P:Program) (T:TypeId) (x:TV) (K:TV->Prop):Prop :=
 match q9 P T with
 | .slice e=>match co (.slice e) x with
  | some (.msl b e' off len cap)=>cap≠0/\K (.av .ptr (.ptr b (.arr cap e') [off]))
  | some .nsl=>K (.cst (.pointer none))
  | _=>False
 | _=>False

noncomputable def zQ (P:Program) (s:St) (op:Op) (K:TV->Prop):Prop :=
 match op with
 | .move x|.assign x=>K (ev s x)
 | .pick c x y=>zds P (ev s c) (ev s x) (ev s y) K
 | .load T x=>yB P s (ev s x) fun d y=>d=q9 P T/\K (.av d y)
 | .nilCheck x=>match ev s x with
  | .av .func (.fn f caps)=>K (.av .func (.fn f caps))
  | .av .func (.bm f caps)=>K (.av .func (.bm f caps))
  | t=>zbR t=some (.ptr,false)/\K t
 | .fieldAddr T x f=>kC P s T f (ev s x) K
 | .field T x f=>match q9 P T with
  | .struct fs=>match fs[f]?,co (.struct fs) (ev s x)with
   | some F,some y=>match X6 y [f]with
    | some z=>K (.av (q9 P F) z)
    | none=>False
   | _,_=>False
  | _=>False
 | .indexAddr T x i=>kP P s T (ev s x) (ev s i) K
 | .index T x i=>D7 P T (ev s x) (ev s i) K
 | .binOp op T x y _=>zf1 P op T (xP x||xP y) (ev s x) (ev s y) K
 | .unOp op _ x=>unV op (ev s x) K
 | .convert S D x=>zay P S D (ev s x) K
 | .makeInterface T x=>match co (q9 P T) (ev s x)with
  | some y=>q9 P T≠.iface/\K (.av .iface (.ifc T y))
  | none=>False
 | .makeFunc (.func f) first caps=>match first.toList with
  | []=>match (caps.toList.map (ev s)).mapM zbq with
   | some xs=>K (.av .func (.fn f xs))
   | none=>False
  | o::r=>caps=#[]/\match ((o::r).map (ev s)).mapM zbq with
   | some xs=>K (.av .func (.bm f xs))
   | none=>False
 | .extract x i=>match ev s x with
  | .tup xs=>match xs[i]? with
   | some (d,y)=>K (.av d y)
   | none=>False
  | _=>False
 | .slice T x lo hi none=>X9 P s T (ev s x) lo hi K
 | .slice T x lo (some h) (some m)=>X3 P s T (ev s x) lo h m K
 | .lookup T x i ok=>xN P s T (ev s x) (ev s i) ok K
 | .call { callee:=.builtin .len,args,argTypes }=>match args.toList,argTypes.toList with
  | [x],[T]=>zix P s T (ev s x) K
  | _,_=>False
 | .call { callee:=.builtin .unsafeSliceData,args,argTypes }=>match args.toList,argTypes.toList with
  | [x],[T]=>zeX P T (ev s x) K
  | _,_=>False
 | .call { callee:=.builtin .min,args,.. }=>zoQ (args.toList.map (ev s)) K
 | .call { callee:=.builtin .max,args,.. }=>zoz (args.toList.map (ev s)) K
 | .call { callee:=.builtin .cap,args,argTypes }=>match args.toList,argTypes.toList with
  | [x],[T]=>zne P T (ev s x) K
  | _,_=>False
 | _=>False
theorem qT {c:Ctx} {s:St} {a:Act} {w:World} {g:Gh} {β:Nat->Nat} (h:zF c s a w g β) (x:Operand):TVR c.P s g w β (ev s x) (a.eval x):=by
 cases x with
 | tmp t=>exact h.env t
 | const v=>rfl
 | global n=>trivial
 | func f=>exact⟨rfl,rfl,[],rfl,rfl⟩

theorem jA {H:q8} {b:Nat} {o:HObj} (h:k8 H b=some o):(b,o)∈H:=by
 induction H with
 | nil=>grind [k8]
 | cons x r ih =>
  grind [k8]

theorem cD {c:Ctx} (hl:laidOutB c.P=true) {s:St} {a:Act} {w:World} {g:Gh} {β:Nat->Nat} (h:zF c s a w g β) {tv:TV} {v:Value} (hv:TVR c.P s g w β tv v) {K:TyD->AV->Prop}
  (hd:yB c.P s tv K):∃b off cs E fz d x,v=.pointer (some ⟨b,off,none⟩)/\w.heap[b]?=some (.cells cs E fz)/\off+szD c.P d<=cs.size/\
   VC c.P g w d x ((cs.toList.drop off).take (szD c.P d))/\K d x:=by
 unfold yB at hd
 split at hd
 ·rename_i k path
  obtain⟨d,x,off,d',h1,h2,rfl⟩:=hv
  rw[h1]at hd
  simp only at hd
  have hs:=WW (P:=c.P) path d
  rw[h2]at hs
  simp only[Option.map_some]at hs
  rw[<-hs]at hd
  cases hg:X6 x path with
  | none=>simp_all
  | some y =>
   rw[hg]at hd
   simp only at hd
   obtain⟨cs,⟨E,fz,hb,_⟩,hvc⟩:=(h.locs k d x h1).block
   obtain⟨r1,r2⟩:=xL hl hvc h2 hg
   grind
 ·rename_i d x
  obtain⟨hpos,b,off,rfl,hle,hvc⟩:=hv
  have hne:=y5 hl x _ _ hvc
  have hlen:=wN hl x _ _ hne hvc
  obtain⟨cs,E,fz,hb,hs⟩:=h.rep.imm b (by omega)
  refine⟨b,off,cs,E,fz,d,x,rfl,hb,by omega,?_,hd⟩
  simp_all[zU]
 ·rename_i b d path
  obtain⟨f,hv⟩:=hv
  simp only[VC]at hv
  obtain⟨_,off,t,ho,hv⟩:=hv
  rw[qK rfl f]at hv
  cases hv
  cases hh:k8 s.H b with
  | none=>simp_all
  | some o =>
   rw[hh]at hd
   cases o with
   | map k e es=>exact hd.elim
   | raw _ _ _=>exact hd.elim
   | var d0 x =>
    simp only at hd
    obtain⟨rfl,hd⟩:=hd
    have hs:=WW (P:=c.P) path d0
    rw[ho]at hs
    simp only[Option.map_some]at hs
    rw[<-hs]at hd
    cases hg:X6 x path with
    | none=>simp_all
    | some y =>
     rw[hg]at hd
     simp only at hd
     obtain⟨_,cs,⟨E,fz,hb,_⟩,hvc⟩:=h.rep.obj b _ (jA hh)
     obtain⟨r1,r2⟩:=xL hl hvc ho hg
     grind
 simp_all

theorem pA {P:Program} (hl:laidOutB P=true) {T:TypeId} {fs:List TypeId} (hT:q9 P T=.struct fs) {f:Nat} {F:TypeId} (hf:fs[f]?=some F) :
  ∃(A:Array Field) (fd:Field),P.underlying T=some (.struct A)/\A[f]?=some fd/\fd.type=F/\fd.offset=((fs.take f).map P.cellsOf).sum:=by
 have hne:q9 P T≠.other:=by rw[hT];simp
 obtain⟨u,hu,hm⟩:=qO hT (by simp)
 simp only[zP]at hm
 obtain⟨A,rfl,rfl,_⟩:=hm
 simp only[List.getElem?_map,Option.map_eq_some_iff]at hf
 obtain⟨fd,hfd,rfl⟩:=hf
 have hfd':A[f]?=some fd:=by simp_all
 exact⟨A,fd,hu,hfd',rfl,uC hl (J3 hne) hu hfd'⟩

theorem zbZ {P:Program} {b off:Nat} {fd:Field} {i:TypeInfo} (hi:P.info? fd.type=some i) (hp:k7 P fd.type=true) (w:World) :
  (fieldPlace ⟨b,off,none⟩ fd).run P w=.ok ⟨b,off+fd.offset,none⟩ w:=by
 have h0:i.size≠0:=by grind [k7,Program.cellsOf]
 unfold fieldPlace
 simp_all[sizeOf,typeInfo,wA]

theorem jV {P:Program} {T:TypeId} (h:k7 P T=true):∃i,P.info? T=some i:=by
 cases hi:P.info? T with
 | none=>simp_all[k7,Program.cellsOf]
 | some i=>simp

theorem CX {c:Ctx} (hl:laidOutB c.P=true) {s:St} {a:Act} {w:World} {g:Gh} {β:Nat->Nat} (h:zF c s a w g β) {tv:TV} {v:Value} (hv:TVR c.P s g w β tv v) {T:TypeId} {f:Nat} {K:TV->Prop}
  (hd:kC c.P s T f tv K):∃u tu,(Instr.fieldAt T v f).run c.P w=.ok u w/\K tu/\TVR c.P s g w β tu u:=by
 unfold kC at hd
 cases hT:q9 c.P T<;>rw[hT]at hd<;>try (exact hd.elim)
 rename_i fs
 simp only at hd
 cases hF:fs[f]? with
 | none=>rw[hF]at hd;exact hd.elim
 | some F =>
  rw[hF]at hd
  simp only at hd
  obtain⟨hp,hd⟩:=hd
  obtain⟨A,fd,hu,hfd,rfl,hoff⟩:=pA hl hT hF
  obtain⟨i,hi⟩:=jV hp
  have run:∀b off,v=.pointer (some ⟨b,off,none⟩)->(Instr.fieldAt T v f).run c.P w=.ok (.pointer (some ⟨b,off+fd.offset,none⟩)) w:=by
   intro b off hv
   subst hv
   unfold Instr.fieldAt
   simp[run_underlying hu,hfd,Instr.sureAddr,zbZ hi hp]
  have step:∀d path off,Z7 c.P d path=some (off,.struct fs)->Z7 c.P d (path++[f])=some (off+fd.offset,q9 c.P fd.type):=by
   intro d path off ho
   refine cJ ho ?_
   simp only[Z7,hF]
   simp[hoff]
  split at hd
  ·rename_i k path
   obtain⟨d,x,off,d',h1,h2,rfl⟩:=hv
   rw[h1]at hd
   simp only at hd
   have hs:=WW (P:=c.P) path d
   rw[h2]at hs
   simp only[Option.map_some]at hs
   rw[hd.1]at hs
   cases hs
   exact⟨_,_,run _ _ rfl,hd.2,d,x,_,_,h1,step _ _ _ h2,rfl⟩
  ·rename_i d x
   obtain⟨hpos,b,off,rfl,hle,hvc⟩:=hv
   obtain⟨rfl,hd⟩:=hd
   split at hd
   ·rename_i y hy
    obtain⟨r1,r2⟩:=xL hl hvc (step (.struct fs) [] 0 rfl) hy
    simp only[Nat.zero_add]at r1 r2
    refine⟨_,_,run _ _ rfl,hd,by rw[<-jG hl (y5 hl y _ _ r1)];simpa[k7]using hp,b,off+fd.offset,rfl,?_,?_⟩
    ·have hne:=y5 hl x _ _ hvc
     have hlen:=wN hl x _ _ hne hvc
     omega
    ·have:((zU w b off (szD c.P (.struct fs))).drop fd.offset).take (szD c.P (q9 c.P fd.type))=zU w b (off+fd.offset) (szD c.P (q9 c.P fd.type)):=by
      have hne:=y5 hl x _ _ hvc
      have hlen:=wN hl x _ _ hne hvc
      unfold zU at hlen r2 |-
      split
      ·rename_i cs E fz hb
       rw[hb]at hlen r2
       simp only[List.drop_take,List.drop_drop,List.take_take]at hlen r2 |-
       congr 1
       simp at hlen r2
       omega
      ·simp
     rw[<-this];exact r1
   ·exact hd.elim
  ·rename_i b d path
   obtain⟨f',hv⟩:=hv
   simp only[VC]at hv
   obtain⟨_,off,t,ho,hv⟩:=hv
   rw[qK rfl f']at hv
   cases hv
   have hs:=WW (P:=c.P) path d
   rw[ho]at hs
   simp only[Option.map_some]at hs
   rw[hd.1]at hs
   cases hs
   refine⟨_,_,run _ _ rfl,hd.2,rfl,?_⟩
   simp only[VC]
   exact⟨trivial,_,_,step _ _ _ ho,rfl⟩
  ·exact hd.elim
theorem zhz {c:Ctx} (hl:laidOutB c.P=true) {s:St} {a:Act} {w:World} {g:Gh} {β:Nat->Nat} (h:zF c s a w g β) {tv:TV} {v:Value} (hv:TVR c.P s g w β tv v) {T:TypeId} {K:TV->Prop}
  (hd:yB c.P s tv fun d y=>d=q9 c.P T/\K (.av d y)):∃u tu,(Instr.loadAt T v).run c.P w=.ok u w/\K tu/\TVR c.P s g w β tu u:=by
 obtain⟨b,off,cs,E,fz,d,x,rfl,hb,hle,hvc,rfl,hk⟩:=cD hl h hv hd
 obtain⟨u,hr,hvv⟩:=UP hl hb hle hvc
 exact⟨u,_,by assumption,hk,hvv⟩

theorem W1 {P:Program} {g:Gh} {w:World} {e:TypeId} {t:Tok} {xs:List AV} {v:Value} (h:VV P g w (.slice e) (.sl t xs) v) :
  ∃a cap,v=.slice a xs.length cap/\xs.length<=cap/\(xs=[]\/∃b off,a=some ⟨b,off,none⟩/\off+xs.length*P.cellsOf e<=g.imm b/\VL P g w e xs (zU w b off (xs.length*P.cellsOf e)))/\
   gR g t a xs.length cap e:=by
 obtain⟨f,h⟩:=h
 simp only[VC]at h
 obtain⟨e',a,cap,he,h1,h2,h3,h4⟩:=h
 cases he
 rw[qK rfl f]at h1
 grind
theorem vG {P:Program} {g:Gh} {w:World} {e:TypeId} {t:Tok} {xs:List AV} {a:Option Addr} {cap:Nat} (h2:xs.length<=cap)
  (h3:xs=[]\/∃b off,a=some ⟨b,off,none⟩/\off+xs.length*P.cellsOf e<=g.imm b/\VL P g w e xs (zU w b off (xs.length*P.cellsOf e))) (h4:gR g t a xs.length cap e) :
  VV P g w (.slice e) (.sl t xs) (.slice a xs.length cap):=⟨rfl,e,a,cap,rfl,rfl,h2,h3,h4⟩

theorem WO {w:World} {b off n i k:Nat} (h:i+k<=n):((zU w b off n).drop i).take k=zU w b (off+i) k:=by
 unfold zU
 split
 ·grind [List.drop_take,List.drop_drop]
 ·simp

theorem getD_some {xs:List AV} {n:Nat} (h:n<xs.length):xs[n]?=some (xs.getD n .nilfn):=by
 simp[h]

theorem CG {c:Ctx} (hl:laidOutB c.P=true) {s:St} {a:Act} {w:World} {g:Gh} {β:Nat->Nat} (h:zF c s a w g β) {tx ti:TV} {x i:Value} (hx:TVR c.P s g w β tx x) (hi:TVR c.P s g w β ti i)
  {T:TypeId} {K:TV->Prop} (hd:kP c.P s T tx ti K):∃u tu,(Instr.indexAt T x i).run c.P w=.ok u w/\K tu/\TVR c.P s g w β tu u:=by
 unfold kP at hd
 cases hn:asI ti with
 | none=>simp_all
 | some kn =>
  obtain⟨k,n⟩:=kn
  rw[hn]at hd
  simp only at hd
  obtain rfl:=wP hn hi
  cases hT:q9 c.P T<;>rw[hT]at hd<;>simp only at hd<;>try (exact hd.elim)
  ·rename_i m e
   obtain⟨u,hu,hm⟩:=qO hT (by simp)
   simp only[zP]at hm;subst hm
   obtain⟨hp,h0,h1,hd⟩:=hd
   obtain⟨ie,hie⟩:=jV hp
   have run:∀b off,x=.pointer (some ⟨b,off,none⟩)->(Instr.indexAt T x (.int k n)).run c.P w=.ok (.pointer (some ⟨b,off+n.toNat*c.P.cellsOf e,none⟩)) w:=by
    intro b off hv
    subst hv
    unfold Instr.indexAt
    simp[asIntOf,run_underlying hu,Instr.sureAddr,h0,h1,run_sizeOf w hie,wA]
   have step:∀d path off,Z7 c.P d path=some (off,.arr m e)->Z7 c.P d (path++[n.toNat])=some (off+n.toNat*c.P.cellsOf e,q9 c.P e):=by
    grind [cJ,Z7]
   split at hd
   ·rename_i k path
    obtain⟨d,y,off,d',h1',h2,rfl⟩:=hx
    rw[h1']at hd
    simp only at hd
    have hs:=WW (P:=c.P) path d
    rw[h2]at hs
    simp only[Option.map_some]at hs
    rw[hd.1]at hs
    cases hs
    exact⟨_,_,run _ _ rfl,hd.2,d,y,_,_,h1',step _ _ _ h2,rfl⟩
   ·rename_i d y
    obtain⟨hpos,b,off,rfl,hle,hvc⟩:=hx
    obtain⟨rfl,hd⟩:=hd
    cases y<;>simp only at hd<;>try (exact hd.elim)
    rename_i ps
    have hvc0:=hvc
    simp only[VC]at hvc
    obtain⟨rfl,hvl⟩:=hvc
    have hlt:n.toNat<ps.length:=by omega
    obtain⟨r1,r2⟩:=vQ hl hvl (getD_some hlt)
    have hne:=y5 hl _ _ _ r1
    have hsz:=jG hl hne
    have hlen:=ZD hl ps e _ hvl
    rw[hlen]at r2
    have e1:szD c.P (.arr ps.length e)=ps.length*c.P.cellsOf e:=rfl
    rw[e1]at hle
    refine⟨_,_,run _ _ rfl,hd,by grind,b,_,rfl,by omega,?_⟩
    simp_all[WO]
   ·rename_i b d path
    obtain⟨f',hv⟩:=hx
    simp only[VC]at hv
    obtain⟨_,off,t,ho,hv⟩:=hv
    rw[qK rfl f']at hv
    cases hv
    have hs:=WW (P:=c.P) path d
    rw[ho]at hs
    simp only[Option.map_some]at hs
    rw[hd.1]at hs
    cases hs
    refine⟨_,_,run _ _ rfl,hd.2,rfl,?_⟩
    simp only[VC]
    exact⟨trivial,_,_,step _ _ _ ho,rfl⟩
   simp_all
  ·rename_i e
   obtain⟨u,hu,hm⟩:=qO hT (by simp)
   simp only[zP]at hm;subst hm
   cases hc:co (.slice e) tx with
   | none=>simp_all
   | some y =>
    rw[hc]at hd
    have hvv:=kQ hc hx
    cases y<;>simp only at hd<;>try (exact hd.elim)
    ·rename_i t xs
     obtain⟨hp,h0,h1,hk⟩:=hd
     obtain⟨ie,hie⟩:=jV hp
     obtain⟨a',cap,rfl,hcap,hx,htok⟩:=W1 hvv
     have hlt:n.toNat<xs.length:=by omega
     rcases hx with rfl|⟨b,off,rfl,hle,hvl⟩
     ·simp at hlt
     obtain⟨r1,r2⟩:=vQ hl hvl (getD_some hlt)
     have hne:=y5 hl _ _ _ r1
     have hsz:=jG hl hne
     have hlen:=ZD hl xs e _ hvl
     rw[hlen]at r2
     refine⟨.pointer (some ⟨b,off+n.toNat*c.P.cellsOf e,none⟩),_,?_,hk,by simp_all[k7],b,_,rfl,by omega,?_⟩
     ·unfold Instr.indexAt
      simp[asIntOf,run_underlying hu,h0,h1,run_sizeOf w hie,wA]
     simp_all[WO]
    ·rename_i b e' off len cap
     obtain⟨hp,h0,h1,hk⟩:=hd
     obtain⟨ie,hie⟩:=jV hp
     obtain⟨f',hvv⟩:=hvv
     simp only[VC]at hvv
     obtain⟨he,hv⟩:=hvv
     cases he
     rw[qK rfl f']at hv
     cases hv
     cases hh:k8 s.H b with
     | none=>simp_all
     | some o =>
      rw[hh]at hk
      cases o with
      | map k e es=>exact hk.elim
      | raw _ _ _=>exact hk.elim
      | var d y =>
       cases d<;>simp only at hk<;>try (exact hk.elim)
       rename_i m e''
       obtain⟨rfl,_,hk⟩:=hk
       refine⟨.pointer (some ⟨b,off*c.P.cellsOf e''+n.toNat*c.P.cellsOf e'',none⟩),_,?_,hk,rfl,?_⟩
       ·unfold Instr.indexAt
        simp[asIntOf,run_underlying hu,h0,h1,run_sizeOf w hie,wA]
       simp[VC,Z7,Value.cells,Nat.add_mul]

theorem zg1 {c:Ctx} (hl:laidOutB c.P=true) {s:St} {w:World} {g:Gh} {β:Nat->Nat} {tx ti:TV} {x i:Value} (hx:TVR c.P s g w β tx x) (hi:TVR c.P s g w β ti i)
  {T:TypeId} {K:TV->Prop} (hd:D7 c.P T tx ti K):∃u tu,(Instr.index T x i).run c.P w=.ok u w/\K tu/\TVR c.P s g w β tu u:=by
 unfold D7 at hd
 cases hn:asI ti with
 | none=>simp_all
 | some kn =>
  obtain⟨k,n⟩:=kn
  rw[hn]at hd
  simp only at hd
  obtain rfl:=wP hn hi
  cases hT:q9 c.P T<;>rw[hT]at hd<;>simp only at hd<;>try (exact hd.elim)
  ·obtain⟨u,hu,hm⟩:=qO hT (by simp)
   simp only[zP]at hm;subst hm
   cases hs:asS tx with
   | none=>simp_all
   | some l =>
    rw[hs]at hd
    obtain⟨y,rfl,rfl⟩:=KI hs hx
    obtain⟨h0,h1,hk⟩:=hd
    have hlt:n.toNat<y.size:=by
     simp_all
    refine⟨_,_,?_,hk,kT⟩
    unfold Instr.index
    simp only[asIntOf,Sem.run_bind,Sem.run_pure,Result.andThen_ok,run_underlying hu,h0,if_true]
    have e:y[n.toNat]?=some y[n.toNat]:=by simp
    rw[e]
    simp only[Sem.run_pure]
    have e2:y.data.toList.getD n.toNat 0=y[n.toNat]:=by
     have:n.toNat<y.data.toList.length:=by omega
     rw[List.getD_eq_getElem?_getD,List.getElem?_eq_getElem this]
     rfl
    rw[e2]
  ·rename_i m e
   obtain⟨u,hu,hm⟩:=qO hT (by simp)
   simp only[zP]at hm;subst hm
   cases hc:co (.arr m e) tx with
   | none=>simp_all
   | some y =>
    rw[hc]at hd
    have hvv:=kQ hc hx
    cases y<;>simp only at hd<;>try (exact hd.elim)
    rename_i ps
    obtain⟨h0,h1,hk⟩:=hd
    obtain⟨cs,rfl⟩:=QC rfl hvv
    obtain⟨_,hvc⟩:=hvv
    simp only[VC,Value.cells]at hvc
    obtain⟨rfl,hvl⟩:=hvc
    have hlt:n.toNat<ps.length:=by omega
    obtain⟨r1,r2⟩:=vQ hl hvl (getD_some hlt)
    have hne:=y5 hl _ _ _ r1
    have hsz:=jG hl hne
    obtain⟨v,p1,q1⟩:=ZU hl (g:=g) (w:=w) (T:=e) (cs:=cs) (off:=n.toNat*c.P.cellsOf e) (fun _=>by simp_all) (by rw[<-hsz];exact r1)
    refine⟨v,_,?_,hk,q1⟩
    simp_all[Instr.index,asIntOf,run_underlying,Q8]
end Go.Ab
end
section
namespace Go.Ab
open Go
open Classical
variable [Sel]
section
variable {P:Program} {g:Gh} {w:World} {k et:TypeId}
theorem D2 {x:AV} {v:Value} (h:VV P g w .bool x v):∃b,x=.b b/\v=.bool b:=by
 obtain⟨f,h⟩:=h
 rw[qK rfl f]at h
 cases x<;>simp[VC]at h
 simp_all
theorem zc4 {q:IntKind} {x:AV} {v:Value} (h:VV P g w (.int q) x v):∃n,x=.i q n/\v=.int q n:=by
 obtain⟨f,h⟩:=h
 rw[qK rfl f]at h
 cases x<;>simp[VC]at h
 simp_all
theorem zb1 {x:AV} {v:Value} (h:VV P g w .str x v):∃l,x=.s l/\v=.string ⟨l.toArray⟩:=by
 obtain⟨f,h⟩:=h
 rw[qK rfl f]at h
 cases x<;>simp[VC]at h
 simp_all
def KD (P:Program) (T:TypeId):Bool:=match q9 P T with
 | .bool|.int _|.str=>true
 | _=>false
theorem x8 (h:X2 P k=true):KD P k=true\/∃n e,q9 P k=.arr n e/\KD P e=true:=by
 unfold X2 at h
 cases hT:q9 P k<;>rw[hT]at h<;>simp only at h<;>try (cases h;done)
 ·simp_all[KD]
 ·simp_all[KD]
 ·simp_all[KD]
 ·rename_i n e
  exact .inr ⟨n,e,rfl,by assumption⟩
theorem UW (h:KD P k=true):∃d,P.underlying k=some d/\∀x v,VV P g w (q9 P k) x v->MapKept.IsKey d v:=by
 unfold KD at h
 cases hT:q9 P k<;>rw[hT]at h<;>simp only at h<;>try (cases h;done)
 all_goals
  obtain⟨u,hu,hm⟩:=qO hT (by simp)
  simp only[zP]at hm;subst hm
  refine⟨_,hu,fun x v hv=>?_⟩
 ·obtain⟨b,rfl,rfl⟩:=D2 hv;trivial
 ·obtain⟨b,rfl,rfl⟩:=zc4 hv;rfl
 ·obtain⟨b,rfl,rfl⟩:=zb1 hv;trivial
theorem zph (h:KD P k=true) {x y:AV} {u v:Value} (hx:VV P g w (q9 P k) x u) (hy:VV P g w (q9 P k) y v):u=v<->x=y:=by
 unfold KD at h
 cases hT:q9 P k<;>rw[hT]at h hx hy<;>simp only at h<;>try (cases h;done)
 ·obtain⟨b,rfl,rfl⟩:=D2 hx;obtain⟨b',rfl,rfl⟩:=D2 hy;simp
 ·obtain⟨b,rfl,rfl⟩:=zc4 hx;obtain⟨b',rfl,rfl⟩:=zc4 hy;simp
 ·obtain⟨b,rfl,rfl⟩:=zb1 hx;obtain⟨b',rfl,rfl⟩:=zb1 hy
  simp
def kL:AV->Value
 | .b x=>.bool x
 | .i q n=>.int q n
 | .s l=>.string ⟨l.toArray⟩
 | _=>.nilFunc
def XF:AV->Bool
 | .b _|.i _ _|.s _=>true
 | _=>false
theorem zko (h:KD P k=true) {x:AV} {c:List Value} (hx:VC P g w (q9 P k) x c):c=[kL x]/\XF x=true/\VV P g w (q9 P k) x (kL x):=by
 unfold KD at h
 cases hT:q9 P k<;>rw[hT]at h hx<;>simp only at h<;>try (cases h;done)
 all_goals
  cases x<;>simp[VC]at hx
 ·subst hx;exact⟨rfl,rfl,rfl,by simp[VC,kL,Value.cells]⟩
 ·obtain⟨rfl,rfl⟩:=hx;exact⟨rfl,rfl,rfl,by simp[VC,kL,Value.cells]⟩
 ·subst hx;exact⟨rfl,rfl,rfl,by simp[VC,kL,Value.cells]⟩
theorem zfv {x y:AV} (h:XF x=true) (h':XF y=true) (e:kL x=kL y):x=y:=by
 cases x<;>cases y<;>simp[XF,kL]at h h' e |-<;>try exact e
theorem zda (h:KD P k=true):∀ {ps:List AV} {c:List Value},VL P g w k ps c->c=ps.map kL/\∀p∈ps,XF p=true/\VV P g w (q9 P k) p (kL p)
 | [],c,hx=>by simp_all[VL]
 | p::ps,c,hx=>by
  simp only[VL]at hx
  obtain⟨c1,c2,rfl,h1,h2⟩:=hx
  obtain⟨e1,e2,e3⟩:=zko h h1
  obtain⟨i1,i2⟩:=zda h h2
  simp_all
theorem C9:∀ {a b:List AV},(∀p∈a,XF p=true)->(∀p∈b,XF p=true)->a.map kL=b.map kL->a=b
 | [],[],_,_,_=>rfl
 | [],_::_,_,_,e=>by simp at e
 | _::_,[],_,_,e=>by simp at e
 | x::a,y::b,h1,h2,e=>by
  simp only[List.map_cons,List.cons.injEq]at e
  rw[zfv (h1 x (by simp)) (h2 y (by simp)) e.1,C9 (fun p hp=>h1 p (by simp[hp])) (fun p hp=>h2 p (by simp[hp])) e.2]
theorem zaf {n:Nat} {e:TypeId} (he:KD P e=true) {x:AV} {u:Value} (hx:VV P g w (.arr n e) x u):∃ps,x=.agg ps/\ps.length=n/\u=.agg (ps.map kL).toArray/\∀p∈ps,XF p=true/\VV P g w (q9 P e) p (kL p):=by
 obtain⟨f,h⟩:=hx
 cases x<;>simp[VC]at h
 rename_i ps
 cases u<;>simp[kK,TyD.isAgg]at f
 rename_i cs
 simp only[Value.cells]at h
 obtain⟨h1,h2⟩:=zda he h.2
 exact⟨ps,rfl,h.1,by rw[<-h1],h2⟩
theorem zeR (h:X2 P k=true) {x y:AV} {u v:Value} (hx:VV P g w (q9 P k) x u) (hy:VV P g w (q9 P k) y v):u=v<->x=y:=by
 rcases x8 h with h|⟨n,e,hT,he⟩
 ·grind [zph]
 ·rw[hT]at hx hy
  obtain⟨ps,rfl,_,rfl,h1⟩:=zaf he hx
  obtain⟨qs,rfl,_,rfl,h2⟩:=zaf he hy
  grind [C9]
theorem zoe (h:X2 P k=true) {x:AV} {u:Value} (hx:VV P g w (q9 P k) x u):Instr.sameBits 10000 u u=true:=by
 rcases x8 h with h|⟨n,e,hT,he⟩
 ·obtain⟨d,hd,hK⟩:=UW (g:=g) (w:=w) h
  have:=hK _ _ hx
  cases u<;>cases d<;>first|exact this.elim|simp[Instr.sameBits]
  simp[MapKept.bytes_beq]
 ·rw[hT]at hx
  obtain⟨ps,rfl,_,rfl,h1⟩:=zaf he hx
  have one:∀p,XF p=true->Instr.sameBits 9999 (kL p) (kL p)=true:=by
   intro p hp
   cases p<;>simp[XF]at hp<;>simp[kL,Instr.sameBits]
   simp[MapKept.bytes_beq]
  show ((ps.map kL).toArray.size==(ps.map kL).toArray.size&&((ps.map kL).toArray.toList.zip (ps.map kL).toArray.toList).all fun(x,y)=>Instr.sameBits 9999 x y)=true
  grind
theorem VK (hl:laidOutB P=true) (h:X2 P k=true) {x:AV} {u:Value} (hx:VV P g w (q9 P k) x u) (b:Bool):(Instr.checkKey b 10000 k u).run P w=.ok () w:=by
 rcases x8 h with h|⟨n,e,hT,he⟩
 ·obtain⟨d,hd,hK⟩:=UW (g:=g) (w:=w) h
  grind [MapKept.run_checkKey]
 ·rw[hT]at hx
  obtain⟨u',hu,hm⟩:=qO hT (by simp)
  simp only[zP]at hm;subst hm
  obtain⟨ps,rfl,hn,rfl,h1⟩:=zaf he hx
  obtain⟨d,hd,hK⟩:=UW (g:=g) (w:=w) he
  have hne:q9 P e≠.other:=by grind [KD]
  have hsz1:szD P (q9 P e)=1:=by
   grind [KD,szD]
  have hag:(q9 P e).isAgg=false:=by
   grind [KD,TyD.isAgg]
  have hce:P.cellsOf e=1:=by simp_all[jG]
  rw[show (10000:Nat)=9999+1 from rfl,Instr.checkKey]
  simp only[Sem.run_bind,run_underlying hu,Result.andThen_ok]
  simp only[Std.Legacy.Range.forIn_eq_forIn_range',Std.Legacy.Range.size,Nat.sub_zero,Nat.add_one_sub_one,Nat.div_one]
  have each:∀j∈List.range' 0 n,∃v,(part e (ps.map kL).toArray (j*1)).run P w=.ok v w/\(Instr.checkKey b 9999 e v).run P w=.ok () w:=by
   intro j hj
   have hj':j<ps.length:=by simp_all
   obtain⟨v,hv1,hv2⟩:=ZU hl (P:=P) (g:=g) (w:=w) (T:=e) (x:=ps[j]) (off:=j*1) (cs:=(ps.map kL).toArray) (by grind)
    (by
      rw[hsz1]
      have:(((ps.map kL).toArray.toList.drop (j*1)).take 1)=[kL ps[j]]:=by
       simp_all[List.drop_eq_getElem_cons]
      rw[this]
      have h2:=(h1 ps[j] (List.getElem_mem hj')).2
      have h3:=h2.2
      have h4:(kL ps[j]).cells.toList=[kL ps[j]]:=qK hag h2.1
      simp_all)
   grind [MapKept.run_checkKey]
  generalize List.range' 0 n=is at each
  induction is with
  | nil=>simp
  | cons j is ih =>
   obtain⟨v,p1,p2⟩:=each j (by simp)
   simp_all[Q8]
theorem zm9 (h:X2 P k=true):WX P 8 k=true:=by
 rcases x8 h with h|⟨n,e,hT,he⟩
 ·grind [KD,WX]
 grind [KD,WX]
noncomputable def wO (kv:Value):List MapEntry->Nat->Option (Nat × Value)
 | [],_=>none
 | e::es,i=>if e.key=kv then some (i,e.val) else wO kv es (i+1)
theorem zgj (hk:KD P k=true) {d:TypeDesc} (hd:P.underlying k=some d) {y:AV} {kv:Value} (hy:VV P g w (q9 P k) y kv):∀ {es:List (AV × AV)} {en:List MapEntry} (i:Nat),yA P g w k et es en->
  Instr.findNow d kv en i=some (wO kv en i)
 | [],[],i,_=>rfl
 | [],_::_,i,h=>h.elim
 | _::_,[],i,h=>h.elim
 | (x,z)::es,e::en,i,h=>by
  obtain⟨d',hd',hK⟩:=UW (g:=g) (w:=w) hk
  rw[hd]at hd';cases hd'
  obtain⟨r,hr,hiff⟩:=MapKept.sameNow_of_keys (hK _ _ hy) (hK _ _ h.1)
  cases r with
  | true =>
   simp_all[Instr.findNow,wO]
  | false =>
   have hne:¬e.key=kv:=fun q=>by have:=hiff.2 q.symm;cases this
   simp[Instr.findNow,hr,wO,hne,zgj hk hd hy (i+1) h.2.2]
theorem zgN (hl:laidOutB P=true) (hk:X2 P k=true) {y:AV} {kv:Value} (hy:VV P g w (q9 P k) y kv):∀ {es:List (AV × AV)} {en:List MapEntry} (i:Nat),yA P g w k et es en->
  (Instr.findAsking k kv en i).run P w=.ok (wO kv en i) w
 | [],[],i,_=>by rfl
 | [],_::_,i,h=>h.elim
 | _::_,[],i,h=>h.elim
 | (x,z)::es,e::en,i,h=>by
  have hq:(Op.equal k kv e.key).run P w=.ok (decide (y=x)) w:=ziz hl 8 k (zm9 hk) 10000 (by omega) y x kv e.key hy h.1
  by_cases hxy:y=x
  ·have hkv:=(zeR hk hy h.1).2 hxy
   simp[Instr.findAsking,hq,hxy]
   simp[wO,hkv.symm]
  ·have hne:¬e.key=kv:=fun q=>hxy ((zeR hk hy h.1).1 q.symm)
   simp[Instr.findAsking,hq,hxy,wO,hne,zgN hl hk hy (i+1) h.2.2]
theorem zb2 (hl:laidOutB P=true) (hk:X2 P k=true) {y:AV} {kv:Value} (hy:VV P g w (q9 P k) y kv) {es:List (AV × AV)} {en:List MapEntry} (h:yA P g w k et es en) :
  (Instr.findKey k kv en).run P w=.ok (wO kv en 0) w:=by
 rcases x8 hk with h1|⟨n,e,hT,he⟩
 ·obtain⟨d,hd,hK⟩:=UW (g:=g) (w:=w) h1
  grind [MapKept.run_findKey,zgj]
 ·obtain⟨u',hu,hm⟩:=qO hT (by simp)
  grind [zP,run_findKey_eq,zgN]
theorem D3 (hk:X2 P k=true) {y:AV} {kv:Value} (hy:VV P g w (q9 P k) y kv):∀ {es:List (AV × AV)} {en:List MapEntry} (i:Nat),yA P g w k et es en->
  (yK y es=none/\wO kv en i=none/\(∀u zv b,VV P g w (q9 P et) u zv->yA P g w k et (WG y u es) (en++[⟨kv,zv,b⟩])))\/
  ∃z j e,yK y es=some z/\wO kv en i=some (i+j,e.val)/\en[j]?=some e/\VV P g w (q9 P et) z e.val/\e.key=kv/\
   ∀u zv,VV P g w (q9 P et) u zv->yA P g w k et (WG y u es) (en.modify j fun e=>{ e with key:=kv,val:=zv })
 | [],[],i,_=>.inl ⟨rfl,rfl,fun u zv b hu=>⟨hy,hu,trivial⟩⟩
 | [],_::_,i,h=>h.elim
 | _::_,[],i,h=>h.elim
 | (x,z)::es,e::en,i,h=>by
  have heq:=zeR hk hy h.1
  by_cases hxy:x=y
  ·have hkv:=heq.2 hxy.symm
   refine .inr ⟨z,0,e,by grind [yK],by simp_all[wO],rfl,h.2.1,hkv.symm,fun u zv hu=>?_⟩
   simp only[WG,hxy,if_true,List.modify_zero_cons]
   exact⟨hxy▸hy,hu,h.2.2⟩
  ·have hne:¬e.key=kv:=fun q=>hxy (heq.1 q.symm).symm
   rcases D3 hk hy (i+1) h.2.2 with⟨h1,h2,h3⟩|⟨z',j,e',h1,h2,h3,h4,h5,h6⟩
   ·refine .inl ⟨by simp_all[yK],by simp_all[wO],fun u zv b hu=>?_⟩
    simp only[WG,hxy,if_false]
    exact⟨h.1,h.2.1,h3 u zv b hu⟩
   ·refine .inr ⟨z',j+1,e',by simp_all[yK],by grind [wO],by simp_all,h4,h5,fun u zv hu=>?_⟩
    simp only[WG,hxy,if_false,List.modify_succ_cons]
    exact⟨h.1,h.2.1,h6 u zv hu⟩
theorem zfi (hk:X2 P k=true) {y:AV} {kv:Value} (hy:VV P g w (q9 P k) y kv):∀ {es:List (AV × AV)} {en:List MapEntry} (i:Nat),yA P g w k et es en->
  (wO kv en i=none/\zaU y es=es)\/∃j v,wO kv en i=some (i+j,v)/\j<en.length/\yA P g w k et (zaU y es) (en.eraseIdx j)
 | [],[],i,_=>.inl ⟨rfl,rfl⟩
 | [],_::_,i,h=>h.elim
 | _::_,[],i,h=>h.elim
 | (x,z)::es,e::en,i,h=>by
  have heq:=zeR hk hy h.1
  by_cases hxy:x=y
  ·have hkv:=heq.2 hxy.symm
   refine .inr ⟨0,e.val,by simp_all[wO],by simp,?_⟩
   simp only[zaU,hxy,if_true,List.eraseIdx_zero,List.tail_cons]
   exact h.2.2
  ·have hne:¬e.key=kv:=fun q=>hxy (heq.1 q.symm).symm
   rcases zfi hk hy (i+1) h.2.2 with⟨h1,h2⟩|⟨j,v,h1,h2,h3⟩
   ·simp_all[wO,zaU]
   ·refine .inr ⟨j+1,v,by grind [wO],by simp;omega,?_⟩
    simp only[zaU,hxy,if_false,List.eraseIdx_cons_succ]
    exact⟨h.1,h.2.1,h3⟩
end
theorem zd9 {c:Ctx} {s:St} {a:Act} {w:World} {g:Gh} {β:Nat->Nat} (h:zF c s a w g β) {k e:TypeId} {tx:TV} {x:Value} {es:List (AV × AV)} (hx:TVR c.P s g w β tx x) (hm:XY s k e tx=some es) :
  ∃r en ck,x=.map r/\yA c.P g w k e es en.toList/\((r=none/\en=#[])\/∃b,r=some b/\co (.map k e) tx=some (.map (some b))/\k8 s.H b=some (.map k e es)/\w.heap[b]?=some (.map en ck)):=by
 unfold XY at hm
 cases hc:co (.map k e) tx with
 | none=>rw[hc]at hm;cases hm
 | some y =>
  rw[hc]at hm
  obtain⟨f,hv⟩:=kQ hc hx
  cases y<;>first|(cases hm;done)|skip
  rename_i r
  simp only[VC]at hv
  obtain⟨k',e',hd,hv⟩:=hv
  cases hd
  rw[qK rfl f]at hv
  cases hv
  cases r with
  | none=>simp only[Option.some.injEq]at hm;subst hm;exact⟨none,#[],0,rfl,trivial,.inl ⟨rfl,rfl⟩⟩
  | some b =>
   replace hm:(match k8 s.H b with
    | some (.map k' e' es)=>if k'=k/\e'=e then some es else none
    | _=>none)=some es:=hm
   cases hh:k8 s.H b with
   | none=>rw[hh]at hm;cases hm
   | some o =>
    rw[hh]at hm
    cases o with
    | var d x=>cases hm
    | raw _ _ _=>cases hm
    | map k' e' es' =>
     replace hm:(if k'=k/\e'=e then some es' else none)=some es:=hm
     split at hm
     ·rename_i he
      obtain⟨rfl,rfl⟩:=he
      cases hm
      obtain⟨_,en,ck,h1,h2⟩:=h.rep.obj b _ (jA hh)
      exact⟨some b,en,ck,rfl,h2.1,.inr ⟨b,rfl,rfl,hh,h1⟩⟩
     ·cases hm
theorem zeG {c:Ctx} (hl:laidOutB c.P=true) {s:St} {a:Act} {w:World} {g:Gh} {β:Nat->Nat} (h:zF c s a w g β) {tx ti:TV} {x i:Value} (hx:TVR c.P s g w β tx x) (hi:TVR c.P s g w β ti i)
  {T:TypeId} {ok:Bool} {K:TV->Prop} (hd:xN c.P s T tx ti ok K):∃u tu,(Instr.lookup T x i ok).run c.P w=.ok u w/\K tu/\TVR c.P s g w β tu u:=by
 unfold xN at hd
 cases hT:q9 c.P T<;>rw[hT]at hd<;>simp only at hd<;>try (exact hd.elim)
 rename_i k e
 obtain⟨u,hu,hm⟩:=qO hT (by simp)
 simp only[zP]at hm;subst hm
 cases hc:co (q9 c.P k) ti with
 | none=>simp_all
 | some y =>
  rw[hc]at hd
  obtain⟨hs,hz,hd⟩:=hd
  have hy:=kQ hc hi
  cases hmo:XY s k e tx with
  | none=>simp_all
  | some es =>
   rw[hmo]at hd
   simp only at hd
   obtain⟨r,en,ck,rfl,hrel,hr⟩:=zd9 h hx hmo
   obtain⟨z,hzr,hzv⟩:=zs0 hz
   have hck:(Instr.checkKey en.isEmpty 10000 k i).run c.P w=.ok () w:=VK hl hs hy _
   have key:∀(q:Option (Nat × Value)),wO i en.toList 0=q->(Instr.findKey k i en.toList).run c.P w=.ok q w:=fun q hq=>by grind [zb2]
   rcases D3 hs hy 0 hrel with⟨h1,h2,_⟩|⟨z',j,e',h1,h2,h3,h4,h5,_⟩
   ·rw[h1]at hd
    simp only at hd
    refine⟨if ok then .tuple #[z,.bool false] else z,_,?_,hd,?_⟩
    ·unfold Instr.lookup
     rcases hr with⟨rfl,rfl⟩|⟨b,rfl,_,_,hb⟩
     ·have hck':(Instr.checkKey true 10000 k i).run c.P w=.ok () w:=VK hl hs hy _
      simp_all[run_underlying]
     ·simp[run_underlying hu,MapKept.run_getObj_map hb,hck,key _ h2,hzr]
    ·have hv:=hzv g w
     cases ok
     ·exact hv
     ·exact⟨[z,.bool false],rfl,hv,kB,trivial⟩
   ·rw[h1]at hd
    simp only at hd
    refine⟨if ok then .tuple #[e'.val,.bool true] else e'.val,_,?_,hd,?_⟩
    ·unfold Instr.lookup
     rcases hr with⟨rfl,rfl⟩|⟨b,rfl,_,_,hb⟩
     ·simp at h3
     ·simp[run_underlying hu,MapKept.run_getObj_map hb,hck,key _ h2]
    ·cases ok
     ·exact h4
     ·exact⟨[e'.val,.bool true],rfl,h4,kB,trivial⟩
end Go.Ab
end
section
namespace Go.Ab
open Go
open Classical
variable [Sel]
theorem KF {c:Ctx} {s:St} {a:Act} {w:World} {g:Gh} {β:Nat->Nat} (h:zF c s a w g β) {isSlice:Bool} {len cap:Nat} {lo hi:Option Operand} {K:Nat->Nat->Prop} {ln:Nat} (hcap:len<=cap) (hln:hi=none->ln=len)
  (hd:QQ s len lo hi K):∃l u,l<=u/\u<=len/\K l u/\(Instr.sliceBounds isSlice ln cap (lo.map a.eval) (hi.map a.eval) none).run c.P w=.ok (l,u,cap) w:=by
 have low:∀(u:Nat),u<=len->zb3 s lo u K->∃l,l<=u/\K l u/\∀X:Sem (Nat × Nat × Nat),
   X=(match lo.map a.eval with|some v=>do let l <-Instr.sliceBound v u .sliceB;pure (l,u,cap)|none=>do let l <-pure 0;pure (l,u,cap))->X.run c.P w=.ok (l,u,cap) w:=by
  intro u hu hk
  unfold zb3 at hk
  cases lo with
  | none=>simp_all
  | some o =>
   simp only at hk
   cases ho:asI (ev s o)with
   | none=>simp_all
   | some kn =>
    obtain⟨k,n⟩:=kn
    rw[ho]at hk
    obtain⟨h0,h1,hk⟩:=hk
    have hv:=wP ho (qT h o)
    simp_all[Instr.sliceBound,asIntOf]
 unfold QQ at hd
 cases hi with
 | none =>
  obtain rfl:=hln rfl
  obtain⟨l,h1,h2,h3⟩:=low ln (Nat.le_refl _) hd
  refine⟨l,ln,h1,Nat.le_refl _,h2,?_⟩
  unfold Instr.sliceBounds
  grind
 | some o =>
  simp only at hd
  cases ho:asI (ev s o)with
  | none=>simp_all
  | some kn =>
   obtain⟨k,n⟩:=kn
   rw[ho]at hd
   obtain⟨h0,h1,hd⟩:=hd
   have hv:=wP ho (qT h o)
   obtain⟨l,h2,h3,h4⟩:=low n.toNat (by omega) hd
   refine⟨l,n.toNat,h2,by omega,h3,?_⟩
   have hle:n<=(cap:Int):=by omega
   have hb:∀code,(Instr.sliceBound (a.eval o) cap code).run c.P w=.ok n.toNat w:=by
    simp_all[Instr.sliceBound,asIntOf]
   have:=h4 _ rfl
   unfold Instr.sliceBounds
   cases lo<;>simpa[hb]using this

theorem JV {P:Program} (hl:laidOutB P=true) {g:Gh} {w:World} {e:TypeId}:∀ {xs:List AV} {cs:List Value} (l k:Nat),VL P g w e xs cs->l+k<=xs.length->
  VL P g w e ((xs.drop l).take k) ((cs.drop (l*P.cellsOf e)).take (k*P.cellsOf e))
 | [],cs,l,k,h,hk=>by
  simp_all[VL]
 | x::xs,cs,l,k,h,hk=>by
  simp only[VL]at h
  obtain⟨c1,c2,rfl,h1,h2⟩:=h
  have hne:=y5 hl x _ _ h1
  have hc1:=wN hl x _ _ hne h1
  rw[<-jG hl hne]at hc1
  cases l with
  | zero =>
   cases k with
   | zero=>simp[VL]
   | succ k =>
    have:=JV hl 0 k h2 (by simp_all)
    simp only[List.drop_zero,Nat.zero_mul,List.take_succ_cons,VL]at this |-
    grind [List.take_append,List.take_of_length_le]
  | succ l =>
   have:=JV hl l k h2 (by grind)
   simp_all[Nat.succ_mul,List.drop_append,List.drop_of_length_le]

theorem zff {c:Ctx} (hl:laidOutB c.P=true) {s:St} {a:Act} {w:World} {g:Gh} {β:Nat->Nat} (h:zF c s a w g β) {tx:TV} {x:Value} (hx:TVR c.P s g w β tx x)
  {T:TypeId} {lo hi:Option Operand} {K:TV->Prop} (hd:X9 c.P s T tx lo hi K) :
  ∃u tu,(Instr.sliceAt T x (lo.map a.eval) (hi.map a.eval) none).run c.P w=.ok u w/\K tu/\TVR c.P s g w β tu u:=by
 unfold X9 at hd
 cases hT:q9 c.P T<;>rw[hT]at hd<;>simp only at hd<;>try (exact hd.elim)
 ·obtain⟨u,hu,hm⟩:=qO hT (by simp)
  simp only[zP]at hm;subst hm
  cases hs:asS tx with
  | none=>simp_all
  | some l =>
   rw[hs]at hd
   obtain⟨y,rfl,rfl⟩:=KI hs hx
   obtain⟨l,u,h1,h2,hk,hr⟩:=KF h (isSlice:=false) (Nat.le_refl _) (fun _=>rfl) hd
   have e:y.data.toList.length=y.size:=by rfl
   rw[e]at hr
   refine⟨.string (y.extract l u),_,?_,hk,?_⟩
   ·simp_all[Instr.sliceAt,Instr.slice,run_underlying]
   ·have:=WM (P:=c.P) (g:=g) (w:=w) (x:=y.extract l u)
    have e2:(y.extract l u).data.toList=(y.data.toList.take u).drop l:=by
     simp[List.drop_take]
    rwa[e2]at this
 ·rename_i n e
  obtain⟨hp,hd⟩:=hd
  obtain⟨u,hu,hm⟩:=qO hT (by simp)
  simp only[zP]at hm;subst hm
  split at hd
  ·rename_i b d
   obtain⟨rfl,hd⟩:=hd
   obtain⟨f,hv⟩:=hx
   simp only[VC]at hv
   obtain⟨_,off,t,ho,hv⟩:=hv
   simp only[Z7,Option.some.injEq,Prod.mk.injEq]at ho
   obtain⟨rfl,rfl⟩:=ho
   rw[qK rfl f]at hv
   simp only[List.cons.injEq,and_true]at hv
   subst hv
   obtain⟨l,u,h1,h2,hk,hr⟩:=KF h (isSlice:=false) (Nat.le_refl n) (fun _=>rfl) hd
   obtain⟨ie,hie⟩:=jV hp
   refine⟨.slice (some (if n=l then⟨b,0,none⟩ else(⟨b,0,none⟩:Addr).add (l*c.P.cellsOf e))) (u-l) (n-l),_,?_,hk,rfl,?_⟩
   ·simp_all[Instr.sliceAt,run_underlying,run_sizeOf,Instr.sureAddr]
   ·simp only[VC,Value.cells]
    refine⟨trivial,?_⟩
    grind [wA]
  simp_all
 ·rename_i e
  obtain⟨u,hu,hm⟩:=qO hT (by simp)
  simp only[zP]at hm;subst hm
  cases hc:co (.slice e) tx with
  | none=>simp_all
  | some y =>
   rw[hc]at hd
   have hvv:=kQ hc hx
   cases y<;>simp only at hd<;>try (exact hd.elim)
   ·rename_i t xs
    obtain⟨hp,hd⟩:=hd
    obtain⟨a',cap,rfl,hcap,hx',htok⟩:=W1 hvv
    obtain⟨l,u,h1,h2,hk,hr⟩:=KF h (isSlice:=true) hcap (fun _=>rfl) hd
    obtain⟨ie,hie⟩:=jV hp
    have hlen:((xs.take u).drop l).length=u-l:=by simp;omega
    refine⟨.slice (if cap=l then a' else a'.map (·.add (l*c.P.cellsOf e))) (u-l) (cap-l),_,?_,hk,?_⟩
    ·simp_all[Instr.sliceAt,Instr.slice,run_underlying,run_sizeOf]
    ·have:=vG (P:=c.P) (g:=g) (w:=w) (e:=e) (t:=.no) (xs:=(xs.take u).drop l) (a:=if cap=l then a' else a'.map (·.add (l*c.P.cellsOf e))) (cap:=cap-l) (by omega) ?_ trivial
     ·rw[hlen]at this;exact this
     ·rcases hx' with rfl|⟨b,off,rfl,hle,hvl⟩
      ·left;simp
      ·by_cases hul:u=l
       ·simp_all
       ·right
        have hcl:cap≠l:=by omega
        refine⟨b,off+l*c.P.cellsOf e,by grind [wA],?_,?_⟩
        ·rw[hlen]
         have:(l+(u-l))*c.P.cellsOf e<=xs.length*c.P.cellsOf e:=Nat.mul_le_mul_right _ (by omega)
         grind
        ·rw[hlen,<-WO (n:=xs.length*c.P.cellsOf e)]
         ·simp_all[JV,List.drop_take]
         ·have:(l+(u-l))*c.P.cellsOf e<=xs.length*c.P.cellsOf e:=Nat.mul_le_mul_right _ (by omega)
          grind
   ·rename_i b e' off len cap
    obtain⟨rfl,hp,hcap,hd⟩:=hd
    obtain⟨f,hv⟩:=hvv
    simp only[VC]at hv
    obtain⟨_,hv⟩:=hv
    rw[qK rfl f]at hv
    cases hv
    obtain⟨l,u,h1,h2,hk,hr⟩:=KF h (isSlice:=true) (ln:=len) (len:=zjX len cap hi) (cap:=cap) (by cases hi<;>simp[zjX,hcap]) (fun e=>by rw[e];rfl) hd
    obtain⟨ie,hie⟩:=jV hp
    refine⟨.slice (if cap=l then some ⟨b,off*c.P.cellsOf e',none⟩ else(some ⟨b,off*c.P.cellsOf e',none⟩:Option Addr).map (·.add (l*c.P.cellsOf e'))) (u-l) (cap-l),_,?_,hk,rfl,?_⟩
    ·simp_all[Instr.sliceAt,Instr.slice,run_underlying,run_sizeOf]
    ·simp only[VC,Value.cells]
     refine⟨trivial,?_⟩
     grind [wA]
   ·obtain⟨hp,hd⟩:=hd
    obtain⟨f,hv⟩:=hvv
    simp only[VC]at hv
    obtain⟨e',_,hv⟩:=hv
    rw[qK rfl f]at hv
    cases hv
    obtain⟨l,u,h1,h2,hk,hr⟩:=KF h (isSlice:=true) (Nat.le_refl 0) (fun _=>rfl) hd
    have hl0:l=0:=by omega
    have hu0:u=0:=by omega
    subst hl0;subst hu0
    obtain⟨ie,hie⟩:=jV hp
    refine⟨.slice none 0 0,_,?_,hk,rfl,e,rfl,rfl⟩
    simp_all[Instr.sliceAt,Instr.slice,run_underlying,run_sizeOf]

theorem zeA {c:Ctx} (hl:laidOutB c.P=true) {s:St} {a:Act} {w:World} {g:Gh} {β:Nat->Nat} (h:zF c s a w g β) {tx:TV} {x:Value} (hx:TVR c.P s g w β tx x)
  {T:TypeId} {lo:Option Operand} {hi m:Operand} {K:TV->Prop} (hd:X3 c.P s T tx lo hi m K) :
  ∃u tu,(Instr.sliceAt T x (lo.map a.eval) (some (a.eval hi)) (some (a.eval m))).run c.P w=.ok u w/\K tu/\TVR c.P s g w β tu u:=by
 unfold X3 at hd
 cases hT:q9 c.P T<;>rw[hT]at hd<;>simp only at hd<;>try (exact hd.elim)
 rename_i e
 obtain⟨u,hu,hm⟩:=qO hT (by simp)
 simp only[zP]at hm;subst hm
 cases hc:co (.slice e) tx with
 | none=>simp_all
 | some y =>
  rw[hc]at hd
  have hvv:=kQ hc hx
  cases y<;>simp only at hd<;>try (exact hd.elim)
  rename_i t xs
  obtain⟨hp,hd⟩:=hd
  obtain⟨a',cap,rfl,hcap,hx',htok⟩:=W1 hvv
  cases ho:asI (ev s hi)with
  | none=>simp_all
  | some kn =>
   obtain⟨k1,n1⟩:=kn
   cases ho2:asI (ev s m)with
   | none=>simp_all
   | some km =>
    obtain⟨k2,n2⟩:=km
    rw[ho,ho2]at hd
    obtain⟨rfl,hd⟩:=hd
    have hv1:=wP ho (qT h hi)
    have hv2:=wP ho2 (qT h m)
    simp only[QQ,ho]at hd
    obtain⟨h0,h1,hd⟩:=hd
    obtain⟨N,rfl⟩:=Int.eq_ofNat_of_zero_le h0
    simp only[Int.toNat_natCast]at hd |-
    have low:∃l,l<=N/\K (.av (.slice e) (.sl .full ((xs.take N).drop l)))/\(Instr.sliceBounds true xs.length cap (lo.map a.eval) (some (a.eval hi)) (some (a.eval m))).run c.P w=.ok (l,N,N) w:=by
     have b1:∀code,(Instr.sliceBound (a.eval m) cap code).run c.P w=.ok N w:=by
      intro code
      have:N<=cap:=by omega
      simp_all[Instr.sliceBound,asIntOf]
     have b2:∀code,(Instr.sliceBound (a.eval hi) N code).run c.P w=.ok N w:=by
      simp_all[Instr.sliceBound,asIntOf]
     unfold zb3 at hd
     cases lo with
     | none=>simp_all[Instr.sliceBounds]
     | some o =>
      simp only at hd
      cases ho3:asI (ev s o)with
      | none=>simp_all
      | some kl =>
       obtain⟨k3,n3⟩:=kl
       rw[ho3]at hd
       obtain⟨h3,h4,hd⟩:=hd
       have hv3:=wP ho3 (qT h o)
       obtain⟨M,rfl⟩:=Int.eq_ofNat_of_zero_le h3
       simp only[Int.toNat_natCast]at hd
       have h4':M<=N:=by omega
       refine⟨M,h4',hd,?_⟩
       simp_all[Instr.sliceBounds,Instr.sliceBound,asIntOf]
    obtain⟨l,h2,hk,hr⟩:=low
    obtain⟨ie,hie⟩:=jV hp
    have hlen:((xs.take N).drop l).length=N-l:=by simp;omega
    refine⟨.slice (if N=l then a' else a'.map (·.add (l*c.P.cellsOf e))) (N-l) (N-l),_,?_,hk,?_⟩
    ·simp_all[Instr.sliceAt,Instr.slice,run_underlying,run_sizeOf]
    ·have:=vG (P:=c.P) (g:=g) (w:=w) (e:=e) (t:=.full) (xs:=(xs.take N).drop l) (a:=if N=l then a' else a'.map (·.add (l*c.P.cellsOf e))) (cap:=N-l) (by omega) ?_ (by show _=_;rw[hlen])
     ·rw[hlen]at this;exact this
     ·rcases hx' with rfl|⟨b,off,rfl,hle,hvl⟩
      ·left;simp
      ·by_cases hul:N=l
       ·simp_all
       ·right
        refine⟨b,off+l*c.P.cellsOf e,by grind [wA],?_,?_⟩
        ·rw[hlen]
         have:(l+(N-l))*c.P.cellsOf e<=xs.length*c.P.cellsOf e:=Nat.mul_le_mul_right _ (by omega)
         grind
        ·rw[hlen,<-WO (n:=xs.length*c.P.cellsOf e)]
         ·simp_all[JV,List.drop_take]
         ·have:(l+(N-l))*c.P.cellsOf e<=xs.length*c.P.cellsOf e:=Nat.mul_le_mul_right _ (by omega)
          grind

theorem GA {c:Ctx} {s:St} {a:Act} {w:World} {g:Gh} {β:Nat->Nat} (h:zF c s a w g β):∀(l:List Operand) (xs:List AV),(l.map (ev s)).mapM zbq=some xs->VA c.P g w xs (l.map a.eval)
 | [],xs,hm=>by simp_all[VA]
 | o::l,xs,hm=>by
  rw[List.map_cons,List.mapM_cons]at hm
  simp only[bind,Option.bind_eq_some_iff,pure,Option.some.injEq]at hm
  obtain⟨x,hx,ys,hys,rfl⟩:=hm
  have ih:=GA h l ys hys
  have hr:=qT h o
  cases hev:ev s o<;>rw[hev]at hx hr<;>simp only[zbq]at hx<;>cases hx
  simp only[List.map_cons,VA]
  exact⟨_,_,_,rfl,hr.1,hr.2,ih⟩

theorem zjL {P:Program} {g:Gh} {w:World}:∀ {xs:List (TyD × AV)} {vs:List Value} {i:Nat} {d:TyD} {x:AV},VVs P g w xs vs->xs[i]?=some (d,x)->∃v,vs[i]?=some v/\VV P g w d x v
 | [],_,_,_,_,_,h=>by simp at h
 | _::_,[],_,_,_,h,_=>h.elim
 | (d',x')::xs,v::vs,0,d,x,h,hi=>by simp at hi;obtain⟨rfl,rfl⟩:=hi;exact⟨v,rfl,h.1⟩
 | (d',x')::xs,v::vs,i+1,d,x,h,hi=>by simpa using zjL h.2 (by simpa using hi)

theorem zmI {P:Program} {s:St} {g:Gh} {w:World} {β:Nat->Nat} {op:UnOp} {tx:TV} {x:Value} (hx:TVR P s g w β tx x) {K:TV->Prop} (hd:unV op tx K) :
  ∃u tu,(Op.unary op x).run P w=.ok u w/\K tu/\TVR P s g w β tu u:=by
 unfold unV at hd
 cases op<;>simp only at hd<;>try (exact hd.elim)
 ·cases hi:asI tx with
  | none=>simp_all
  | some kn =>
   obtain⟨k,n⟩:=kn
   rw[hi]at hd
   obtain rfl:=wP hi hx
   exact⟨_,_,rfl,hd,kT⟩
 ·cases hi:asI tx with
  | none=>simp_all
  | some kn =>
   obtain⟨k,n⟩:=kn
   rw[hi]at hd
   obtain rfl:=wP hi hx
   exact⟨_,_,rfl,hd,kT⟩
 ·cases hb:asB tx with
  | none=>simp_all
  | some b =>
   rw[hb]at hd
   obtain rfl:=VR hb hx
   exact⟨_,_,by rfl,hd,kB⟩

theorem XU {P:Program} {g:Gh} {w:World} {e:TypeId} (he:q9 P e=.int .u8):∀ {xs:List AV} {cs:List Value},VL P g w e xs cs->∃ns:List Int,cs=ns.map (Value.int .u8)/\bytesOf xs=some (ns.map fun n=>UInt8.ofNat n.toNat)/\xs.length=ns.length
 | [],cs,h=>by simp only[VL]at h;subst h;exact⟨[],rfl,rfl,rfl⟩
 | x::xs,cs,h=>by
  simp only[VL]at h
  obtain⟨c1,c2,rfl,h1,h2⟩:=h
  obtain⟨ns,rfl,h3,h4⟩:=XU he h2
  rw[he]at h1
  cases x<;>simp[VC]at h1
  obtain⟨rfl,rfl⟩:=h1
  rename_i n
  exact⟨n::ns,rfl,by simp[bytesOf,h3],by simp[h4]⟩
theorem xO:∀(ns:List Int) (r:ByteArray),ns.foldl (fun r n=>r.push (UInt8.ofNat n.toNat)) r=⟨r.data++(ns.map fun n=>UInt8.ofNat n.toNat).toArray⟩
 | [],r=>by simp
 | n::ns,r=>by
  simp only[List.foldl_cons]
  rw[xO ns]
  simp[ByteArray.push]

theorem zha {P:Program} (hl:laidOutB P=true) {s:St} {g:Gh} {w:World} {β:Nat->Nat} {S D:TypeId} {tx:TV} {x:Value} (hi:ZI g w) (hx:TVR P s g w β tx x) {K:TV->Prop} (hd:zay P S D tx K) :
  ∃u tu,(convert S D x).run P w=.ok u w/\K tu/\TVR P s g w β tu u:=by
 unfold zay at hd
 cases hD:q9 P D<;>rw[hD]at hd<;>try (exact hd.elim)
 ·rename_i k
  cases hS:q9 P S<;>rw[hS]at hd<;>try (exact hd.elim)
  cases hi:asI tx with
  | none=>rw[hi]at hd;exact hd.elim
  | some kn =>
   obtain⟨k',n⟩:=kn
   rw[hi]at hd
   obtain rfl:=wP hi hx
   obtain⟨u1,hu1,hm1⟩:=qO hS (by simp)
   obtain⟨u2,hu2,hm2⟩:=qO hD (by simp)
   simp only[zP]at hm1 hm2;subst hm1;subst hm2
   exact⟨_,_,by simp[convert,run_underlying hu1,run_underlying hu2,Conv.intToInt],hd,kT⟩
 ·cases hS:q9 P S<;>rw[hS]at hd<;>try (exact hd.elim)
  ·simp only at hd
   cases hs:asS tx with
   | none=>rw[hs]at hd;exact hd.elim
   | some l =>
    rw[hs]at hd
    obtain⟨y,rfl,rfl⟩:=KI hs hx
    obtain⟨u1,hu1,hm1⟩:=qO hS (by simp)
    obtain⟨u2,hu2,hm2⟩:=qO hD (by simp)
    simp only[zP]at hm1 hm2;subst hm1;subst hm2
    exact⟨_,_,by simp[convert,run_underlying hu1,run_underlying hu2],hd,hx⟩
  ·rename_i e
   obtain⟨he,hd⟩:=hd
   obtain⟨u1,hu1,hm1⟩:=qO hS (by simp)
   obtain⟨u2,hu2,hm2⟩:=qO hD (by simp)
   obtain⟨u3,hu3,hm3⟩:=qO he (by simp)
   simp only[zP]at hm1 hm2 hm3;subst hm1;subst hm2;subst hm3
   cases hc:co (.slice e) tx with
   | none=>rw[hc]at hd;exact hd.elim
   | some y =>
    rw[hc]at hd
    have hv:=kQ hc hx
    cases y<;>try (exact hd.elim)
    rename_i t xs
    simp only at hd
    obtain⟨a',cap,rfl,hcap,hxs,_⟩:=W1 hv
    have hc1:P.cellsOf e=1:=by rw[jG hl (by rw[he];simp),he];rfl
    rw[run_convert_bytes_string w S D e a' xs.length cap hu1 hu3 hu2]
    rcases hxs with rfl|⟨b,off,rfl,hle,hvl⟩
    ·refine⟨.string .empty,_,?_,hd,WM (x:=.empty)⟩
     cases a'<;>simp[Conv.bytesToString,loadCells,loadCellsFrom]
    ·obtain⟨ns,h1,h2,h3⟩:=XU he hvl
     rw[h2]at hd
     rw[hc1,Nat.mul_one]at hle h1
     have hload:(loadCells ⟨b,off,none⟩ xs.length).run P w=.ok (ns.map (Value.int .u8)).toArray w:=by
      have:=run_loadCells_list (P:=P) w ⟨b,off,none⟩ (ns.map (Value.int .u8)) (fun j v hj=>by
       have hj':j<ns.length:=by
        have:=(List.getElem?_eq_some_iff.1 hj).1
        simpa using this
       obtain⟨cs,E,fz,hb,hs⟩:=hi b (by omega)
       rw[wA,YL hb]
       rw[<-h1]at hj
       simp only[zU,hb,List.getElem?_take,List.getElem?_drop]at hj
       rw[if_pos (by omega)]at hj
       simpa using hj)
      rw[List.length_map,<-h3]at this
      exact this
     rw[run_bytesToString w _ _ _ _ hload,xO]
     refine⟨_,_,rfl,hd,?_⟩
     have:=WM (P:=P) (g:=g) (w:=w) (x:=⟨ByteArray.empty.data++(ns.map fun n=>UInt8.ofNat n.toNat).toArray⟩)
     have e0:ByteArray.empty.data=#[]:=rfl
     simp[e0]at this |-
     exact this

theorem zf8 {P:Program} {g:Gh} {w:World} {k e:TypeId}:∀ {es:List (AV × AV)} {en:List MapEntry},yA P g w k e es en->en.length=es.length
 | [],[],_=>rfl
 | _::_,_::_,h=>by simp[zf8 h.2.2]
theorem zls {c:Ctx} {s:St} {a:Act} {w:World} {g:Gh} {β:Nat->Nat} (h:zF c s a w g β) {T:TypeId} {ty:TypeId} {tx:TV} {x:Value} (hx:TVR c.P s g w β tx x) {K:TV->Prop} (hd:zix c.P s T tx K) :
  ∃u tu,(Builtin.len_ #[T] ty #[x]).run c.P w=.ok u w/\K tu/\TVR c.P s g w β tu u:=by
 unfold zix at hd
 cases hT:q9 c.P T<;>rw[hT]at hd<;>simp only at hd<;>try (exact hd.elim)
 ·obtain⟨u,hu,hm⟩:=qO hT (by simp)
  simp only[zP]at hm;subst hm
  cases hs:asS tx with
  | none=>simp_all
  | some l =>
   rw[hs]at hd
   obtain⟨y,rfl,rfl⟩:=KI hs hx
   have e:y.data.toList.length=y.size:=by rfl
   refine⟨_,_,?_,hd,kT⟩
   simp_all[Builtin.len_,run_underlying,goInt]
 ·obtain⟨u,hu,hm⟩:=qO hT (by simp)
  simp only[zP]at hm;subst hm
  exact⟨_,_,by simp[Builtin.len_,run_underlying hu,goInt],hd,kT⟩
 ·rename_i e
  obtain⟨u,hu,hm⟩:=qO hT (by simp)
  simp only[zP]at hm;subst hm
  cases hc:co (.slice e) tx with
  | none=>simp_all
  | some y =>
   rw[hc]at hd
   have hvv:=kQ hc hx
   cases y<;>simp only at hd<;>try (exact hd.elim)
   ·obtain⟨a',cap,rfl,_⟩:=W1 hvv
    exact⟨_,_,by simp[Builtin.len_,run_underlying hu,goInt],hd,kT⟩
   ·obtain⟨f',hvv⟩:=hvv
    simp only[VC]at hvv
    obtain⟨_,hv⟩:=hvv
    rw[qK rfl f']at hv
    cases hv
    exact⟨_,_,by simp[Builtin.len_,run_underlying hu,goInt],hd,kT⟩
   ·obtain⟨f',hvv⟩:=hvv
    simp only[VC]at hvv
    obtain⟨_,_,hv⟩:=hvv
    rw[qK rfl f']at hv
    cases hv
    exact⟨_,_,by simp[Builtin.len_,run_underlying hu,goInt],hd,kT⟩
 ·rename_i k e
  obtain⟨u,hu,hm⟩:=qO hT (by simp)
  simp only[zP]at hm;subst hm
  cases hmo:XY s k e tx with
  | none=>simp_all
  | some es =>
   rw[hmo]at hd
   obtain⟨r,en,ck,rfl,hrel,hr⟩:=zd9 h hx hmo
   have hlen:en.size=es.length:=by grind [Array.length_toList,zf8]
   refine⟨_,_,?_,hd,kT⟩
   rcases hr with⟨rfl,rfl⟩|⟨b,rfl,_,_,hb⟩
   ·rw[<-hlen];simp[Builtin.len_,run_underlying hu,goInt]
   ·rw[<-hlen];simp[Builtin.len_,run_underlying hu,goInt,MapKept.run_getObj_map hb]

theorem zeY {P:Program} (hl:laidOutB P=true) {s:St} {g:Gh} {w:World} {β:Nat->Nat} {T:TypeId} {f:Nat} {tx:TV} {x:Value} (hx:TVR P s g w β tx x) {K:TV->Prop}
  (hd:match q9 P T with
  | .struct fs=>match fs[f]?,co (.struct fs) tx with
   | some F,some y=>match X6 y [f]with
    | some z=>K (.av (q9 P F) z)
    | none=>False
   | _,_=>False
  | _=>False):∃u tu,(Instr.field T x f).run P w=.ok u w/\K tu/\TVR P s g w β tu u:=by
 cases hT:q9 P T<;>rw[hT]at hd<;>try (exact hd.elim)
 rename_i fs
 simp only at hd
 cases hF:fs[f]? with
 | none=>rw[hF]at hd;exact hd.elim
 | some F =>
  cases hc:co (.struct fs) tx with
  | none=>rw[hF,hc]at hd;exact hd.elim
  | some y =>
   rw[hF,hc]at hd
   simp only at hd
   cases hz:X6 y [f]with
   | none=>rw[hz]at hd;exact hd.elim
   | some z =>
    rw[hz]at hd
    simp only at hd
    have hv:=kQ hc hx
    obtain⟨cs,rfl⟩:=QC rfl hv
    obtain⟨A,fd,hu,hfd,rfl,hoff⟩:=pA hl hT hF
    have ho:Z7 P (.struct fs) [f]=some (fd.offset,q9 P fd.type):=by
     simp only[Z7,hF]
     simp[hoff]
    obtain⟨r1,r2⟩:=xL hl hv.2 ho hz
    obtain⟨v,p1,q1⟩:=ZU hl (g:=g) (w:=w) (T:=fd.type) (cs:=cs) (off:=fd.offset) (fun _=>by simpa[Value.cells]using r2) r1
    refine⟨v,_,?_,hd,q1⟩
    unfold Instr.field
    simp[run_underlying hu,hfd,asAgg,p1]

theorem WV {c:Ctx} (hl:laidOutB c.P=true) {s:St} {a:Act} {w:World} {g:Gh} {β:Nat->Nat} (h:zF c s a w g β) {o:Oper} {K:TV->Prop} (hd:zQ c.P s o.op K) :
  ∃u tu,(execOp a.eval o).run c.P w=.ok (.value u) w/\K tu/\TVR c.P s g w β tu u:=by
 have lift:∀(X:Sem Value) (L:TV->Prop),(∃u tu,X.run c.P w=.ok u w/\L tu/\TVR c.P s g w β tu u)->
   ∃u tu,((do pure (.value (<-X))):Sem Next).run c.P w=.ok (.value u) w/\L tu/\TVR c.P s g w β tu u:=by
  rintro X L ⟨u,tu,hr,hk⟩
  exact⟨u,tu,by simp[hr],hk⟩
 obtain⟨dst,op,type,pos,after,guard⟩:=o
 simp only at hd
 unfold zQ at hd
 split at hd
 ·exact⟨_,_,rfl,hd,qT h _⟩
 ·exact⟨_,_,rfl,hd,qT h _⟩
 ·rename_i b x y
  unfold zds at hd
  cases hb:asB (ev s b)with
  | none=>rw[hb]at hd;exact hd.elim
  | some v =>
   rw[hb]at hd
   have hv:=VR hb (qT h b)
   have hx:=qT h x
   have hy:=qT h y
   refine⟨if v then a.eval x else a.eval y,?_⟩
   have hr:(execOp a.eval ⟨dst,.pick b x y,type,pos,after,guard⟩).run c.P w=.ok (.value (if v then a.eval x else a.eval y)) w:=by
    simp[execOp,hv,asBool]
   cases hp:asB (ev s x)with
   | none =>
    rw[hp]at hd;simp only at hd
    cases v
    ·exact⟨_,hr,hd.2 rfl,by simpa using hy⟩
    ·exact⟨_,hr,hd.1 rfl,by simpa using hx⟩
   | some p =>
    cases hq:asB (ev s y)with
    | none =>
     rw[hp,hq]at hd;simp only at hd
     cases v
     ·exact⟨_,hr,hd.2 rfl,by simpa using hy⟩
     ·exact⟨_,hr,hd.1 rfl,by simpa using hx⟩
    | some q =>
     rw[hp,hq]at hd;simp only at hd
     have e1:=VR hp hx
     have e2:=VR hq hy
     refine⟨_,hr,hd,?_⟩
     cases v<;>simp[e1,e2]<;>exact kB
 ·exact lift _ _ (zhz hl h (qT h _) hd)
 ·rename_i x
  split at hd
  ·rename_i f caps he
   have hv:=qT h x
   rw[he]at hv
   have hv0:=hv
   obtain⟨f',hv⟩:=hv
   simp only[VC]at hv
   obtain⟨_,vs,hv,_⟩:=hv
   rw[qK rfl f']at hv
   simp only[List.cons.injEq,and_true]at hv
   exact⟨a.eval x,_,by simp[execOp,hv],hd,hv0⟩
  ·rename_i f caps he
   have hv:=qT h x
   rw[he]at hv
   have hv0:=hv
   obtain⟨f',hv⟩:=hv
   simp only[VC]at hv
   obtain⟨_,vs,hv,_⟩:=hv
   rw[qK rfl f']at hv
   simp only[List.cons.injEq,and_true]at hv
   exact⟨a.eval x,_,by simp[execOp,hv],hd,hv0⟩
  ·have hv:=dO hd.1 (qT h x)
   refine⟨a.eval x,_,?_,hd.2,qT h x⟩
   rcases vY hv with⟨_,h0⟩|⟨p,hp,_⟩
   ·cases h0
   ·simp[execOp,hp]
 ·exact lift _ _ (CX hl h (qT h _) hd)
 ·exact lift _ _ (zeY hl (qT h _) hd)
 ·exact lift _ _ (CG hl h (qT h _) (qT h _) hd)
 ·exact lift _ _ (zg1 hl (qT h _) (qT h _) hd)
 ·exact lift _ _ (ziD hl (qT h _) (qT h _) hd)
 ·exact lift _ _ (zmI (qT h _) hd)
 ·exact lift _ _ (zha hl h.rep.imm (qT h _) hd)
 ·rename_i T x
  cases hc:co (q9 c.P T) (ev s x)with
  | none=>rw[hc]at hd;exact hd.elim
  | some y =>
   rw[hc]at hd
   have hv:=kQ hc (qT h x)
   have hne:=y5 hl _ _ _ hv.2
   obtain⟨u,hu,hm⟩:=qO (d:=q9 c.P T) rfl hne
   refine⟨.iface T (a.eval x),_,?_,hd.2,rfl,rfl,_,rfl,hv.1,hv.2⟩
   have:∀ms,u≠.interface ms:=by
    intro ms he
    subst he
    cases hT:q9 c.P T<;>rw[hT]at hm<;>simp only[zP]at hm<;>first|(cases hm;done)|skip
    ·obtain⟨_,h1,_⟩:=hm;cases h1
    ·obtain⟨_,h1⟩:=hm;cases h1
    ·obtain⟨_,_,_,h1⟩:=hm;cases h1
    ·exact hd.1 hT
    ·exact hne hT
   cases u<;>first|exact absurd rfl (this _)|simp[execOp,Instr.makeInterface,run_underlying hu]
 ·rename_i f first caps
  split at hd
  ·rename_i h0
   obtain rfl:first=#[]:=by cases first;simp_all
   cases hc:(caps.toList.map (ev s)).mapM zbq with
   | none=>rw[hc]at hd;exact hd.elim
   | some xs =>
    rw[hc]at hd
    have hv:=GA h caps.toList xs hc
    refine⟨.func (.func f) #[] (caps.map a.eval),_,by simp[execOp,Instr.makeFunc],hd,rfl,rfl,caps.toList.map a.eval,?_,hv⟩
    simp[Value.cells]
    obtain⟨l⟩:=caps;simp
  ·rename_i o r h0
   obtain⟨rfl,hd⟩:=hd
   cases hc:((o::r).map (ev s)).mapM zbq with
   | none=>rw[hc]at hd;exact hd.elim
   | some xs =>
    rw[hc]at hd
    have hv:=GA h (o::r) xs hc
    refine⟨.func (.func f) (first.map a.eval) #[],_,by simp[execOp,Instr.makeFunc],hd,rfl,rfl,(o::r).map a.eval,?_,hv⟩
    simp[Value.cells]
    obtain⟨l⟩:=first;simp at h0;subst h0;simp
 ·rename_i x i
  have hv:=qT h x
  cases he:ev s x<;>rw[he]at hd hv<;>try (exact hd.elim)
  rename_i xs
  obtain⟨vs,hvs,hvv⟩:=hv
  simp only at hd
  cases hx:xs[i]? with
  | none=>rw[hx]at hd;exact hd.elim
  | some dy =>
   obtain⟨d,y⟩:=dy
   rw[hx]at hd
   obtain⟨v,h1,h2⟩:=zjL hvv hx
   refine⟨v,_,?_,hd,h2⟩
   simp[execOp,Instr.extract,hvs,h1]
 ·exact lift _ _ (zff hl h (qT h _) hd)
 ·exact lift _ _ (zeA hl h (qT h _) hd)
 ·exact lift _ _ (zeG hl h (qT h _) (qT h _) hd)
 ·rename_i args argTypes
  split at hd
  ·rename_i x T h1 h2
   obtain⟨u,tu,hr,hk⟩:=zls h (ty:=type) (qT h x) hd
   refine⟨u,tu,?_,hk⟩
   have e1:args=#[x]:=by cases args;simp_all
   have e2:argTypes=#[T]:=by cases argTypes;simp_all
   subst e1;subst e2
   simp[execOp,resolve,invoke,builtin,hr]
  ·exact hd.elim
 ·rename_i args argTypes
  split at hd
  ·rename_i x T h1 h2
   have e1:args=#[x]:=by cases args;simp_all
   have e2:argTypes=#[T]:=by cases argTypes;simp_all
   subst e1;subst e2
   unfold zeX at hd
   cases hT:q9 c.P T<;>rw[hT]at hd<;>try (exact hd.elim)
   rename_i e
   simp only at hd
   cases hc:co (.slice e) (ev s x)with
   | none=>rw[hc]at hd;exact hd.elim
   | some y =>
    rw[hc]at hd
    obtain⟨f',hv⟩:=kQ hc (qT h x)
    cases y<;>try (exact hd.elim)
    ·rename_i b e' off len cap
     simp only[VC]at hv
     obtain⟨_,hv⟩:=hv
     rw[qK rfl f']at hv
     simp only[List.cons.injEq,and_true]at hv
     refine⟨.pointer (some ⟨b,off*c.P.cellsOf e',none⟩),_,?_,hd.2,rfl,?_⟩
     ·have hr:=Lib.run_unsafeSliceData_row (P:=c.P) (w:=w) #[T] type ⟨b,off*c.P.cellsOf e',none⟩ len cap hd.1
      simp[execOp,resolve,invoke,builtin,hv,hr]
     ·simp only[VC]
      exact⟨trivial,off*c.P.cellsOf e',q9 c.P e',by simp[Z7],rfl⟩
    ·simp only[VC]at hv
     obtain⟨_,_,hv⟩:=hv
     rw[qK rfl f']at hv
     simp only[List.cons.injEq,and_true]at hv
     refine⟨.pointer none,_,?_,hd,rfl⟩
     have hr:=Lib.run_unsafeSliceData_nil (P:=c.P) (w:=w) #[T] type 0 0
     simp[execOp,resolve,invoke,builtin,hv,hr]
  ·exact hd.elim
 ·rename_i args argTypes
  unfold zoQ at hd
  split at hd
  ·rename_i tx ty h1
   obtain⟨l⟩:=args
   match l,h1 with
   | [x,y],h1 =>
    simp only[List.map_cons,List.map_nil,List.cons.injEq,and_true]at h1
    obtain⟨rfl,rfl⟩:=h1
    cases hx:asI (ev s x)with
    | none=>rw[hx]at hd;exact hd.elim
    | some kn =>
     obtain⟨k,n⟩:=kn
     cases hy:asI (ev s y)with
     | none=>rw[hx,hy]at hd;exact hd.elim
     | some km =>
      obtain⟨k',m⟩:=km
      rw[hx,hy]at hd
      have e1:=wP hx (qT h x)
      have e2:=wP hy (qT h y)
      refine⟨_,_,?_,hd,kT⟩
      simp[execOp,resolve,invoke,builtin,Builtin.min_,Builtin.min2,e1,e2]
  ·exact hd.elim
 ·rename_i args argTypes
  unfold zoz at hd
  split at hd
  ·rename_i tx ty h1
   obtain⟨l⟩:=args
   match l,h1 with
   | [x,y],h1 =>
    simp only[List.map_cons,List.map_nil,List.cons.injEq,and_true]at h1
    obtain⟨rfl,rfl⟩:=h1
    cases hx:asI (ev s x)with
    | none=>rw[hx]at hd;exact hd.elim
    | some kn =>
     obtain⟨k,n⟩:=kn
     cases hy:asI (ev s y)with
     | none=>rw[hx,hy]at hd;exact hd.elim
     | some km =>
      obtain⟨k',m⟩:=km
      rw[hx,hy]at hd
      have e1:=wP hx (qT h x)
      have e2:=wP hy (qT h y)
      refine⟨_,_,?_,hd,kT⟩
      simp[execOp,resolve,invoke,builtin,Builtin.max_,Builtin.max2,e1,e2]
  ·exact hd.elim
 ·rename_i args argTypes
  split at hd
  ·rename_i x T h1 h2
   have e1:args=#[x]:=by cases args;simp_all
   have e2:argTypes=#[T]:=by cases argTypes;simp_all
   subst e1;subst e2
   unfold zne at hd
   cases hT:q9 c.P T<;>rw[hT]at hd<;>try (exact hd.elim)
   rename_i e
   obtain⟨u,hu,hm⟩:=qO hT (by simp)
   simp only[zP]at hm;subst hm
   simp only at hd
   cases hc:co (.slice e) (ev s x)with
   | none=>rw[hc]at hd;exact hd.elim
   | some y =>
    rw[hc]at hd
    obtain⟨f',hv⟩:=kQ hc (qT h x)
    cases y<;>try (exact hd.elim)
    ·simp only[VC]at hv
     obtain⟨_,hv⟩:=hv
     rw[qK rfl f']at hv
     simp only[List.cons.injEq,and_true]at hv
     refine⟨_,_,?_,hd,kT⟩
     simp[execOp,resolve,invoke,builtin,Builtin.cap_,hv,run_underlying hu,goInt]
    ·simp only[VC]at hv
     obtain⟨_,_,hv⟩:=hv
     rw[qK rfl f']at hv
     simp only[List.cons.injEq,and_true]at hv
     refine⟨_,_,?_,hd,kT⟩
     simp[execOp,resolve,invoke,builtin,Builtin.cap_,hv,run_underlying hu,goInt]
  ·exact hd.elim
 ·exact hd.elim
def World.push' (w:World) (o:Obj):World:={ w with heap:=w.heap.push o }

theorem UQ (w:World) (o:Obj) {b:Nat} (h:b<w.heap.size):(World.push' w o).heap[b]?=w.heap[b]?:=by
 simp only[World.push'];grind
theorem Z0 (w:World) (o:Obj):(World.push' w o).heap[w.heap.size]?=some o:=by
 show (w.heap.push o)[w.heap.size]?=some o
 simp
theorem YR {w:World} {o:Obj} {b:Nat} {x:Obj} (h:w.heap[b]?=some x):(World.push' w o).heap[b]?=some x:=by
 grind [UQ]
theorem U4 {Q:TypeId->Prop} {F:Prop} {w:World} {o:Obj} {b:Nat} {cs:Array Value} (h:kD w b cs Q F):kD (World.push' w o) b cs Q F:=by
 obtain⟨E,fz,h1,h2⟩:=h;exact⟨E,fz,YR h1,h2⟩
theorem kR {Q:TypeId->Prop} {F:Prop} {w:World} {b:Nat} {cs:Array Value} (h:kD w b cs Q F):b<w.heap.size:=by
 obtain⟨E,fz,h1,h2⟩:=h;grind

theorem ZJ {g:Gh} {w:World} (hi:ZI g w) {b:Nat} (h:w.heap.size<=b):g.imm b=0:=by
 rcases Nat.eq_zero_or_pos (g.imm b)with h0|h0
 ·exact h0
 ·obtain⟨cs,E,fz,hb,_⟩:=hi b h0
  simp_all

theorem yC {g:Gh} {w:World} {o:Obj}:jP g w (World.push' w o):=fun b cs E fz _ hb=>⟨cs,E,fz,YR hb,rfl,fun _ _=>rfl⟩

theorem zhF {P:Program} {g:Gh} {w:World} {H:q8} (h:Rep P g w H) {b:Nat} (hb:b∈H.keys):b<w.heap.size:=by
 obtain⟨⟨b',o⟩,ho,rfl⟩:=List.mem_map.1 hb
 have:=h.obj _ _ ho
 cases o with
 | var d x=>obtain⟨_,cs,hc,_⟩:=this;exact kR hc
 | map k e es=>obtain⟨_,en,ck,hc,_⟩:=this;grind
 | raw r i0 w0=>obtain⟨_,hc,_⟩:=this;grind

theorem zf7 {P:Program} {g g':Gh} {w:World} {o:Obj} (hle:g.le g') (hi:ZI g w) {b:Nat} (hb:b<w.heap.size) (himm:g'.imm b=g.imm b) {x:HObj} (h:X8 P g w b x):X8 P g' (World.push' w o) b x:=by
 cases x with
 | var d x=>obtain⟨h1,cs,h2,h3⟩:=h;exact⟨himm.trans h1,cs,U4 h2,jE hle hi yC x d _ h3⟩
 | map k e es=>obtain⟨h1,en,ck,h2,h3⟩:=h;exact⟨himm.trans h1,en,ck,(UQ w o hb).trans h2,yI hle hi yC h3⟩
 | raw r i0 w0=>obtain⟨h1,h2,h3⟩:=h;exact⟨himm.trans h1,(UQ w o hb).trans h2,yE h3 hle yC⟩

theorem zF.push {c:Ctx} {s:St} {a:Act} {w:World} {g:Gh} {β:Nat->Nat} (h:zF c s a w g β) (o:Obj) (m:Nat) (hm:0<m->∃cs E fz,o=.cells cs E fz/\m<=cs.size) :
  zF c s a (World.push' w o) { g with imm:=upd g.imm w.heap.size m } β:=by
 have hnew:=ZJ h.rep.imm (Nat.le_refl w.heap.size)
 have himm:∀b,b<w.heap.size->upd g.imm w.heap.size m b=g.imm b:=fun b hb=>by grind [upd]
 have hle:g.le { g with imm:=upd g.imm w.heap.size m }:=by
  refine⟨fun b=>?_,fun _ _ _ e=>e⟩
  simp only[upd];grind
 have hi:=h.rep.imm
 have hs:∀b,b<c.w0.heap.size->b<w.heap.size:=fun b hb=>Nat.lt_of_lt_of_le hb h.step.size
 exact {
  defers:=h.defers.of fun D hD=>(UQ w o (Array.getElem?_eq_some_iff.1 hD).1).trans hD
  size:=h.size
  env:=fun t=>y8 hle hi yC (fun k d x e=>⟨x,e,rfl⟩) (h.env t)
  locs:=fun k d x e=>by
   have:=h.locs k d x e
   obtain⟨cs,h1,h2⟩:=this.block
   exact⟨this.base,this.noH,(himm _ (kR h1)).trans this.imm,cs,U4 h1,jE hle hi yC x d _ h2⟩
  inj:=h.inj
  rep:=⟨fun b hb=>by
    simp only[upd]at hb |-
    split at hb
    ·simp_all[Z0]
    ·rename_i e
     rw[if_neg e]
     obtain⟨cs,E,fz,h1,h2⟩:=hi b hb
     simp_all[YR],h.rep.nodup,fun b x hx=>by
    have hb:=zhF h.rep (List.mem_map.2 ⟨_,hx,rfl⟩)
    exact zf7 hle hi hb (himm b hb) (h.rep.obj b x hx),h.rep.tab.keep hle hi yC⟩
  toks:=fun k t e=>by
   have:=h.toks k t e
   obtain⟨cs,h1,h2⟩:=this.block
   exact⟨this.base,this.noH,this.noLoc,(himm _ (kR h1)).trans this.imm,cs,U4 h1,h2⟩
  tokd:=h.tokd
  toknew:=h.toknew
  step:={
   os:=h.step.os,tape:=h.step.tape,output:=h.step.output,drawn:=h.step.drawn
   size:=Nat.le_trans h.step.size (by simp[World.push'])
   frame:=fun b hb hn=>by
    obtain⟨h1,h2⟩:=h.step.frame b hb hn
    simp_all[UQ]
   imm:=fun b=>Nat.le_trans (h.step.imm b) (hle.1 b)
   kept:=fun b cs E fz h0 h1=>by
    obtain⟨cs',E',fz',h2,h3⟩:=h.step.kept b cs E fz h0 h1
    simp_all[YR]
   dom:=h.step.dom } }

theorem zF.newLoc {c:Ctx} {s:St} {a:Act} {w:World} {g:Gh} {β:Nat->Nat} (h:zF c s a w g β) {k:Nat} (hk:s.loc k=none) {d:TyD} {x:AV} {cs:Array Value} {E:TypeId}
  (hv:VC c.P g w d x cs.toList) (hE:EOK c.P d E) :
  zF c { s with loc:=upd s.loc k (some (d,x)) } a (World.push' w (.cells cs E (0,0))) g (upd β k w.heap.size):=by
 have h':=h.push (.cells cs E (0,0)) 0 (by omega)
 have eg:({ g with imm:=upd g.imm w.heap.size 0 }:Gh)=g:=by
  have:upd g.imm w.heap.size 0=g.imm:=by
   funext b;simp only[upd];split
   ·rename_i e;rw[e,ZJ h.rep.imm (Nat.le_refl _)]
   ·rfl
  rw[this]
 rw[eg]at h'
 have hi:=h.rep.imm
 have hold:∀j d' y,s.loc j=some (d',y)->j≠k:=fun j d' y e e'=>by simp_all
 have hlt:∀j,s.loc j≠none->β j<w.heap.size:=fun j hj=>by
  cases e:s.loc j with
  | none=>simp_all
  | some dy=>obtain⟨d',y⟩:=dy;obtain⟨cs',h1,_⟩:=(h.locs j d' y e).block;exact kR h1
 refine { h' with env:=fun t=>?_,locs:=fun j d' y e=>?_,inj:=fun i j e1 e2 e3=>?_,toks:=fun j t e=>?_ }
 ·refine y8 (Gh.le_refl g) h'.rep.imm (fun b cs E fz _ hb=>⟨cs,E,fz,hb,rfl,fun _ _=>rfl⟩) (fun j d' y e=>⟨y,?_,?_⟩) (h'.env t)
  ·simp only[upd];grind
  ·simp only[upd];grind
 ·simp only[upd]at e
  split at e
  ·rename_i ej
   cases e
   have eb:upd β k w.heap.size j=w.heap.size:=by simp[upd,ej]
   rw[<-ej]
   refine⟨by rw[ej]at eb |-;rw[eb];exact h.step.size,?_,?_,?_⟩<;>(rw[ej]at eb |-;rw[eb])
   ·exact fun hin=>absurd (zhF h.rep hin) (Nat.lt_irrefl _)
   ·exact ZJ hi (Nat.le_refl _)
   ·exact⟨cs,⟨E,(0,0),Z0 _ _,.inl (Nat.le_refl _),hE⟩,jE (Gh.le_refl g) hi yC x d _ hv⟩
  ·rename_i ej
   have:=h'.locs j d' y e
   have eb:upd β k w.heap.size j=β j:=by simp[upd,ej]
   exact⟨by rw[eb];exact this.base,by rw[eb];exact this.noH,by rw[eb];exact this.imm,by rw[eb];exact this.block⟩
 ·simp only[upd]at e1 e2 e3
  by_cases hi':i=k<;>by_cases hj:j=k<;>simp only[hi',hj,if_true,if_false]at e1 e2 e3 |-
  ·grind
  ·grind
  ·exact h.inj i j e1 e2 e3
 ·have:=h'.toks j t e
  refine { this with noLoc:=fun i hi'=>?_ }
  simp only[upd]at hi' |-
  split
  ·obtain⟨cs',h1,_⟩:=(h.toks j t e).block
   have:=kR h1
   omega
  ·rename_i hne
   rw[if_neg hne]at hi'
   exact this.noLoc i hi'

theorem zF.newHF {c:Ctx} {s:St} {a:Act} {w:World} {g:Gh} {β:Nat->Nat} (h:zF c s a w g β) {d:TyD} {x:AV} {cs:Array Value} {E:TypeId} (fz:Nat × Nat) (hfz:fz.2<=fz.1\/(cs.size<=fz.1/\zcQ c.P d))
  (hv:VC c.P g w d x cs.toList) (hE:EOK c.P d E) :
  zF c { s with H:=(w.heap.size,.var d x)::s.H } a (World.push' w (.cells cs E fz)) g β/\w.heap.size∉s.H.keys:=by
 have h':=h.push (.cells cs E fz) 0 (by omega)
 have eg:({ g with imm:=upd g.imm w.heap.size 0 }:Gh)=g:=by
  have:upd g.imm w.heap.size 0=g.imm:=by
   funext b;simp only[upd];split
   ·rename_i e;rw[e,ZJ h.rep.imm (Nat.le_refl _)]
   ·rfl
  rw[this]
 rw[eg]at h'
 have hi:=h.rep.imm
 have hnot:w.heap.size∉s.H.keys:=fun hin=>absurd (zhF h.rep hin) (Nat.lt_irrefl _)
 have hkeys:∀b,b∈q8.keys ((w.heap.size,HObj.var d x)::s.H)<->b=w.heap.size\/b∈s.H.keys:=fun b=>by simp[q8.keys]
 refine⟨{ h' with env:=fun t=>?_,locs:=fun j d' y e=>?_,rep:=⟨h'.rep.imm,?_,fun b o hb=>?_,h'.rep.tab⟩,toks:=fun j t e=>?_,step:=?_ },hnot⟩
 ·exact y8 (Gh.le_refl g) h'.rep.imm (fun b cs E fz _ hb=>⟨cs,E,fz,hb,rfl,fun _ _=>rfl⟩) (fun j d' y e=>⟨y,e,rfl⟩) (h'.env t)
 ·have:=h'.locs j d' y e
  refine { this with noH:=fun hin=>?_ }
  rcases(hkeys _).1 hin with h1|h1
  ·obtain⟨cs',h2,_⟩:=(h.locs j d' y e).block
   have:=kR h2;omega
  ·exact this.noH h1
 ·show (q8.keys _).Nodup
  simp only[q8.keys,List.map_cons,List.nodup_cons]
  exact⟨hnot,h.rep.nodup⟩
 ·rcases List.mem_cons.1 hb with h1|h1
  ·cases h1
   exact⟨ZJ hi (Nat.le_refl _),cs,⟨E,fz,Z0 _ _,hfz,hE⟩,jE (Gh.le_refl g) hi yC x d _ hv⟩
  ·exact h'.rep.obj b o h1
 ·have:=h'.toks j t e
  refine { this with noH:=fun hin=>?_ }
  rcases(hkeys _).1 hin with h1|h1
  ·obtain⟨cs',h2,_⟩:=(h.toks j t e).block
   have:=kR h2;omega
  ·exact this.noH h1
 ·refine { h'.step with dom:=fun b hb=>?_ }
  rcases(hkeys _).1 hb with h1|h1
  ·right;rw[h1];exact h.step.size
  ·exact h'.step.dom b h1
theorem zF.newH {c:Ctx} {s:St} {a:Act} {w:World} {g:Gh} {β:Nat->Nat} (h:zF c s a w g β) {d:TyD} {x:AV} {cs:Array Value} {E:TypeId}
  (hv:VC c.P g w d x cs.toList) (hE:EOK c.P d E) :
  zF c { s with H:=(w.heap.size,.var d x)::s.H } a (World.push' w (.cells cs E (0,0))) g β/\w.heap.size∉s.H.keys:=h.newHF (0,0) (.inl (Nat.le_refl _)) hv hE
end Go.Ab
end
section
namespace Go.Ab
open Go
open Classical
variable [Sel]
theorem y3 {P:Program} (g o:Nat) (t:TypeId) (fz:Nat × Nat):∀(vs:List Value) (i:Nat) (cur:Array Value) (w:World),w.heap[g]?=some (.cells cur t fz)->(fz.2<=fz.1\/cur.size<=fz.1)->
  o+i+vs.length<=cur.size->(∀v∈vs,v.oneCell'=true)->
  (storeCells ⟨g,o,none⟩ vs i).run P w=.ok () (w.setRow g (cur.toList.take (o+i)++vs++cur.toList.drop (o+i+vs.length)).toArray)
 | [],i,cur,w,hg,_,_,_=>by
  simp only[storeCells,List.append_nil,List.length_nil,Nat.add_zero,List.take_append_drop,Array.toArray_toList]
  rw[setRow_self w g cur t fz hg]
  rfl
 | v::rest,i,cur,w,hg,hf,hl,h1=>by
  have hi:o+i<cur.size:=by grind
  have hadd:(⟨g,o,none⟩:Addr).add i=⟨g,o+i,none⟩:=wA _ _ _
  have hcell:w.cell? ⟨g,o+i,none⟩=some cur[o+i]:=by simp_all[World.cell?]
  have hfro:w.frozen? ⟨g,o+i,none⟩=false:=by grind [World.frozen?]
  have hst:(store ((⟨g,o,none⟩:Addr).add i) v).run P w=.ok () (w.setRow g (cur.setIfInBounds (o+i) v)):=by
   grind [run_store,setCell_eq_setRow]
  have ih:=y3 (P:=P) g o t fz rest (i+1) (cur.setIfInBounds (o+i) v) (w.setRow g (cur.setIfInBounds (o+i) v)) (setRow_heap w g cur _ t _ hg) (by simp_all) (by grind) (fun x hx=>h1 x (by simp[hx]))
  grind [storeCells,Sem.run_bind,Result.andThen_ok,setRow_setRow,list_seg_step]

mutual
theorem D1 {P:Program} {g:Gh} {w:World} (x:AV) (d:TyD) (cs:List Value) (h:VC P g w d x cs):∀v∈cs,v.oneCell'=true:=by
 cases x with
 | agg ps =>
  cases d with
  | struct fs=>simp only[VC]at h;exact zd3 ps _ _ h
  | arr n e=>simp only[VC]at h;exact u6 ps _ _ h.2
  | _=>grind [VC]
 | sl t xs=>simp only[VC]at h;obtain⟨_,_,_,_,rfl,_⟩:=h;simp[Value.oneCell']
 | msl b e off len cap=>simp_all[VC,Value.oneCell']
 | ptr b d' path=>simp only[VC]at h;obtain⟨rfl,off,t,_,rfl⟩:=h;simp[Value.oneCell']
 | fn f caps=>simp only[VC]at h;obtain⟨rfl,vs,rfl,_⟩:=h;simp[Value.oneCell']
 | bm f caps=>simp only[VC]at h;obtain⟨rfl,vs,rfl,_⟩:=h;simp[Value.oneCell']
 | map r=>simp_all[VC,Value.oneCell']
 | nsl=>simp_all[VC,Value.oneCell']
 | ifc T x=>simp only[VC]at h;obtain⟨rfl,v,rfl,_⟩:=h;simp[Value.oneCell']
 | _=>simp_all[VC,Value.oneCell']
theorem u6 {P:Program} {g:Gh} {w:World} (xs:List AV) (e:TypeId) (cs:List Value) (h:VL P g w e xs cs):∀v∈cs,v.oneCell'=true:=by
 cases xs with
 | nil=>simp_all[VL]
 | cons x xs =>
  simp only[VL]at h
  obtain⟨c1,c2,rfl,h1,h2⟩:=h
  intro v hv
  rcases List.mem_append.1 hv with hv|hv
  ·exact D1 x _ _ h1 v hv
  ·exact u6 xs _ _ h2 v hv
theorem zd3 {P:Program} {g:Gh} {w:World} (xs:List AV) (fs:List TypeId) (cs:List Value) (h:VF P g w fs xs cs):∀v∈cs,v.oneCell'=true:=by
 cases xs with
 | nil=>simp_all[VF]
 | cons x xs =>
  simp only[VF]at h
  obtain⟨f,r,c1,c2,_,rfl,h1,h2⟩:=h
  intro v hv
  rcases List.mem_append.1 hv with hv|hv
  ·exact D1 x _ _ h1 v hv
  ·exact zd3 xs _ _ h2 v hv
end
theorem x9 {Q:TypeId->Prop} {F:Prop} {w:World} {b:Nat} {cur cs:Array Value} (h:kD w b cur Q F) (hs:cs.size=cur.size):kD (w.setRow b cs) b cs Q F:=by
 obtain⟨E,fz,h1,h2⟩:=h
 exact⟨E,fz,setRow_heap w b cur cs E fz h1,by simp_all⟩
theorem k6 {Q:TypeId->Prop} {F:Prop} {w:World} {b b':Nat} {cs cs':Array Value} (h:kD w b' cs' Q F) (hne:b'≠b):kD (w.setRow b cs) b' cs' Q F:=by
 obtain⟨E,fz,h1,h2⟩:=h
 exact⟨E,fz,by simp_all[setRow_other],h2⟩
theorem U8 {Q:TypeId->Prop} {F:Prop} {P:Program} (hl:laidOutB P=true) {g:Gh} {w:World} {T:TypeId} {y:AV} {v:Value} {b off:Nat} {cs:Array Value} (hb:kD w b cs Q F) (hlen:off+szD P (q9 P T)<=cs.size)
  (hv:VV P g w (q9 P T) y v) :
  (storeVar T ⟨b,off,none⟩ v).run P w=.ok () (w.setRow b (cs.toList.take off++v.cells.toList++cs.toList.drop (off+szD P (q9 P T))).toArray)/\
   (cs.toList.take off++v.cells.toList++cs.toList.drop (off+szD P (q9 P T))).toArray.size=cs.size:=by
 have hne:=y5 hl _ _ _ hv.2
 have hsz:=jG hl hne
 have hlv:=wN hl _ _ _ hne hv.2
 obtain⟨E,fz,h1,h2⟩:=hb
 have hcs:v.cells.size=P.cellsOf T:=by simp_all
 constructor
 ·unfold storeVar
  simp only[Sem.run_bind,Q8 hne,Result.andThen_ok,hcs,ne_eq,not_true_eq_false,if_false]
  rw[y3 b off E fz v.cells.toList 0 cs w h1 (h2.1.imp_right And.left) (by omega) (D1 _ _ _ hv.2)]
  simp_all
 grind
theorem ZT {g:Gh} {w:World} {b:Nat} {cs:Array Value} (h:g.imm b=0):jP g w (w.setRow b cs):=by
 intro b' cs' E fz h0 h1
 have hne:b'≠b:=fun e=>by simp_all
 simp_all[setRow_other]
theorem pO {g:Gh} {w:World} (hi:ZI g w) {b:Nat} {cs:Array Value} (h:g.imm b=0):ZI g (w.setRow b cs):=by
 intro b' h0
 have hne:b'≠b:=fun e=>by simp_all
 obtain⟨cs',E,fz,h1,h2⟩:=hi b' h0
 simp_all[setRow_other]
theorem gS {P:Program} {g:Gh} {w:World} (hi:ZI g w) {b b':Nat} {cs:Array Value} (h:g.imm b=0) (hne:b'≠b) {o:HObj} (ho:X8 P g w b' o):X8 P g (w.setRow b cs) b' o:=by
 cases o with
 | var d x=>obtain⟨h1,cs',h2,h3⟩:=ho;exact⟨h1,cs',k6 h2 hne,jE (Gh.le_refl g) hi (ZT h) x d _ h3⟩
 | map k e es=>obtain⟨h1,en,ck,h2,h3⟩:=ho;exact⟨h1,en,ck,(setRow_other w b b' cs hne).trans h2,yI (Gh.le_refl g) hi (ZT h) h3⟩
 | raw r i0 w0=>obtain⟨h1,h2,h3⟩:=ho;exact⟨h1,(setRow_other w b b' cs hne).trans h2,yE h3 (Gh.le_refl g) (ZT h)⟩
theorem zfY.setRow {Q:TypeId->Prop} {F:Prop} {n:Nat} {w:World} {dfs:List Nat} {d0 ds:List Deferred} (h:zfY n w dfs d0 ds) {b:Nat} {cur cs:Array Value} (hc:kD w b cur Q F):zfY n (w.setRow b cs) dfs d0 ds :=
 h.of fun D hD=>by
  have hne:D≠b:=fun e=>by subst e;obtain⟨E,fz,h1,_⟩:=hc;simp_all
  simp_all[setRow_other]
theorem vW (w:World) (b:Nat) (cs:Array Value):(w.setRow b cs).heap.size=w.heap.size:=by simp
theorem zF.setLoc {c:Ctx} {s:St} {a:Act} {w:World} {g:Gh} {β:Nat->Nat} (h:zF c s a w g β) {k:Nat} {d:TyD} {x y:AV} (hk:s.loc k=some (d,x)) {cur cs:Array Value} (hc:kD w (β k) cur (EOK c.P d) (zcQ c.P d)) (hs:cs.size=cur.size)
  (hv:VC c.P g w d y cs.toList):zF c { s with loc:=upd s.loc k (some (d,y)) } a (w.setRow (β k) cs) g β:=by
 have L:=h.locs k d x hk
 have h0:=L.imm
 have hi:=h.rep.imm
 have hik:=ZT (w:=w) (cs:=cs) h0
 have hlocne:∀j,s.loc j≠none<->(upd s.loc k (some (d,y))) j≠none:=by
  intro j;simp only[upd];grind
 exact {
  defers:=h.defers.setRow hc
  size:=h.size
  env:=fun t=>y8 (Gh.le_refl g) hi hik (fun j d' z e=>by
   by_cases ej:j=k
   ·simp_all[upd]
   simp_all[upd]) (h.env t)
  locs:=fun j d' z e=>by
   simp only[upd]at e
   split at e
   ·rename_i ej
    cases e;subst ej
    exact⟨L.base,L.noH,L.imm,cs,x9 hc hs,jE (Gh.le_refl g) hi hik _ _ _ hv⟩
   ·rename_i ej
    have L':=h.locs j d' z e
    obtain⟨cs',h1,h2⟩:=L'.block
    have hne:β j≠β k:=fun e'=>ej (h.inj j k (by rw[e];simp) (by rw[hk];simp) e')
    exact⟨L'.base,L'.noH,L'.imm,cs',k6 h1 hne,jE (Gh.le_refl g) hi hik _ _ _ h2⟩
  inj:=fun i j e1 e2=>h.inj i j ((hlocne i).2 e1) ((hlocne j).2 e2)
  rep:=⟨pO hi h0,h.rep.nodup,fun b o hb=>by
   have hne:b≠β k:=fun e'=>L.noH (e'▸List.mem_map.2 ⟨_,hb,rfl⟩)
   exact gS hi h0 hne (h.rep.obj b o hb),h.rep.tab.keep (Gh.le_refl g) hi hik⟩
  toks:=fun j t e=>by
   have T:=h.toks j t e
   obtain⟨cs',h1,h2⟩:=T.block
   exact⟨T.base,T.noH,fun i hi'=>T.noLoc i ((hlocne i).2 hi'),T.imm,cs',k6 h1 (fun e'=>T.noLoc k (by rw[hk];simp) e'.symm),h2⟩
  tokd:=h.tokd
  toknew:=h.toknew
  step:={
   os:=h.step.os,tape:=h.step.tape,output:=h.step.output,drawn:=h.step.drawn
   size:=by rw[vW];exact h.step.size
   frame:=fun b hb hn=>by
    have hne:b≠β k:=fun e=>by have:=L.base;omega
    rw[setRow_other w (β k) b cs hne];exact h.step.frame b hb hn
   imm:=h.step.imm
   kept:=fun b cs' E fz h1 h2=>by
    obtain⟨cs2,E2,fz2,h3,h4⟩:=h.step.kept b cs' E fz h1 h2
    have hne:b≠β k:=fun e=>by have:=L.base;simp_all
    simp_all[setRow_other]
   dom:=h.step.dom } }
theorem yT (H:q8) (b:Nat) (o:HObj):(jW H b o).keys=H.keys:=by
 induction H with
 | nil=>rfl
 | cons x r ih =>
  grind [jW,q8.keys]
theorem zbU {H:q8} (hn:H.keys.Nodup) {b b':Nat} {o o':HObj} (h:(b',o')∈jW H b o):(b'=b/\o'=o/\b∈H.keys)\/(b'≠b/\(b',o')∈H):=by
 induction H with
 | nil=>grind [jW]
 | cons x r ih =>
  obtain⟨b1,o1⟩:=x
  simp only[q8.keys,List.map_cons,List.nodup_cons]at hn
  simp only[jW]at h
  split at h
  ·rename_i e
   rcases List.mem_cons.1 h with h|h
   ·simp_all[q8.keys]
   grind
  grind [q8.keys]
theorem zF.setH {c:Ctx} {s:St} {a:Act} {w:World} {g:Gh} {β:Nat->Nat} (h:zF c s a w g β) {b:Nat} {d:TyD} {x y:AV} (hk:k8 s.H b=some (.var d x)) {cur cs:Array Value} (hc:kD w b cur (EOK c.P d) (zcQ c.P d)) (hs:cs.size=cur.size)
  (hv:VC c.P g w d y cs.toList):zF c { s with H:=jW s.H b (.var d y) } a (w.setRow b cs) g β:=by
 have hin:b∈s.H.keys:=List.mem_map.2 ⟨_,jA hk,rfl⟩
 obtain⟨h0,_⟩:=h.rep.obj b _ (jA hk)
 have hi:=h.rep.imm
 have hik:=ZT (w:=w) (cs:=cs) h0
 exact {
  defers:=h.defers.setRow hc
  size:=h.size
  env:=fun t=>y8 (Gh.le_refl g) hi hik (fun j d' z e=>⟨z,e,rfl⟩) (h.env t)
  locs:=fun j d' z e=>by
   have L':=h.locs j d' z e
   obtain⟨cs',h1,h2⟩:=L'.block
   have hne:β j≠b:=fun e'=>L'.noH (e'▸hin)
   exact⟨L'.base,by rw[yT];exact L'.noH,L'.imm,cs',k6 h1 hne,jE (Gh.le_refl g) hi hik _ _ _ h2⟩
  inj:=h.inj
  rep:=⟨pO hi h0,by rw[yT];exact h.rep.nodup,fun b' o hb=>by
   rcases zbU h.rep.nodup hb with⟨rfl,rfl,_⟩|⟨hne,hb⟩
   ·exact⟨h0,cs,x9 hc hs,jE (Gh.le_refl g) hi hik _ _ _ hv⟩
   ·exact gS hi h0 hne (h.rep.obj b' o hb),h.rep.tab.keep (Gh.le_refl g) hi hik⟩
  toks:=fun j t e=>by
   have T:=h.toks j t e
   obtain⟨cs',h1,h2⟩:=T.block
   exact⟨T.base,by rw[yT];exact T.noH,T.noLoc,T.imm,cs',k6 h1 (fun e'=>T.noH (e'▸hin)),h2⟩
  tokd:=h.tokd
  toknew:=h.toknew
  step:={
   os:=h.step.os,tape:=h.step.tape,output:=h.step.output,drawn:=h.step.drawn
   size:=by rw[vW];exact h.step.size
   frame:=fun b' hb hn=>by
    have hne:b'≠b:=fun e=>by
     subst e
     rcases h.step.dom b' hin with h1|h1
     ·exact hn h1
     ·omega
    rw[setRow_other w b b' cs hne];exact h.step.frame b' hb hn
   imm:=h.step.imm
   kept:=fun b' cs' E fz h1 h2=>by
    obtain⟨cs2,E2,fz2,h3,h4⟩:=h.step.kept b' cs' E fz h1 h2
    have hne:b'≠b:=fun e=>by
     subst e
     have:=h.step.imm b'
     omega
    simp_all[setRow_other]
   dom:=fun b' hb=>h.step.dom b' (by grind [yT]) } }
/-! ### maps are written -/
def World.setM (w:World) (b:Nat) (o:Obj):World:={ w with heap:=w.heap.setIfInBounds b o }
theorem zK (w:World) (b b':Nat) (o:Obj) (h:b'≠b):(World.setM w b o).heap[b']?=w.heap[b']?:=by
 simp[World.setM,Ne.symm h]
theorem zdn {w:World} {b:Nat} {o o':Obj} (h:w.heap[b]?=some o'):(World.setM w b o).heap[b]?=some o:=by
 grind [World.setM]
theorem VS (w:World) (b:Nat) (o:Obj):(World.setM w b o).heap.size=w.heap.size:=by simp[World.setM]
theorem zF.setM {c:Ctx} {s:St} {a:Act} {w:World} {g:Gh} {β:Nat->Nat} (h:zF c s a w g β) {b:Nat} {k e:TypeId} {es es':List (AV × AV)} (hk:k8 s.H b=some (.map k e es)) {en:Array MapEntry} {ck:Nat}
  (hv:zp5 c.P g w k e es' en.toList ck):zF c { s with H:=jW s.H b (.map k e es') } a (World.setM w b (.map en ck)) g β:=by
 have hin:b∈s.H.keys:=List.mem_map.2 ⟨_,jA hk,rfl⟩
 obtain⟨h0,en0,ck0,hb0,_⟩:=h.rep.obj b _ (jA hk)
 have hi:=h.rep.imm
 have hik:jP g w (World.setM w b (.map en ck)):=by
  intro b' cs E fz h1 h2
  have hne:b'≠b:=fun e=>by simp_all
  simp_all[zK]
 have hcell:∀ {b':Nat} {cs:Array Value} {Q:TypeId->Prop} {F:Prop},kD w b' cs Q F->b'≠b/\kD (World.setM w b (.map en ck)) b' cs Q F:=by
  intro b' cs Q F ⟨E,fz,h1,h2⟩
  have hne:b'≠b:=fun e=>by simp_all
  exact⟨hne,E,fz,by simp_all[zK],h2⟩
 exact {
  defers:=h.defers.of fun D hD=>by
   grind [zK]
  size:=h.size
  env:=fun t=>y8 (Gh.le_refl g) hi hik (fun j d' z e=>⟨z,e,rfl⟩) (h.env t)
  locs:=fun j d' z e=>by
   have L':=h.locs j d' z e
   obtain⟨cs',h1,h2⟩:=L'.block
   exact⟨L'.base,by rw[yT];exact L'.noH,L'.imm,cs',(hcell h1).2,jE (Gh.le_refl g) hi hik _ _ _ h2⟩
  inj:=h.inj
  rep:=⟨fun b' hb=>by
    have hne:b'≠b:=fun e=>by simp_all
    obtain⟨cs',E,fz,h1,h2⟩:=hi b' hb
    simp_all[zK],by rw[yT];exact h.rep.nodup,fun b' o hb=>by
   rcases zbU h.rep.nodup hb with⟨rfl,rfl,_⟩|⟨hne,hb⟩
   ·exact⟨h0,en,ck,zdn hb0,yI (Gh.le_refl g) hi hik hv⟩
   ·have ho:=h.rep.obj b' o hb
    cases o with
    | var d x=>obtain⟨h1,cs',h2,h3⟩:=ho;exact⟨h1,cs',(hcell h2).2,jE (Gh.le_refl g) hi hik _ _ _ h3⟩
    | map k' e' es2=>obtain⟨h1,en',ck',h2,h3⟩:=ho;exact⟨h1,en',ck',by simp_all[zK],yI (Gh.le_refl g) hi hik h3⟩
    | raw r i0 w0=>obtain⟨h1,h2,h3⟩:=ho;exact⟨h1,by simp_all[zK],yE h3 (Gh.le_refl g) hik⟩,h.rep.tab.keep (Gh.le_refl g) hi hik⟩
  toks:=fun j t e=>by
   have T:=h.toks j t e
   obtain⟨cs',h1,h2⟩:=T.block
   exact⟨T.base,by rw[yT];exact T.noH,T.noLoc,T.imm,cs',(hcell h1).2,h2⟩
  tokd:=h.tokd
  toknew:=h.toknew
  step:={
   os:=h.step.os,tape:=h.step.tape,output:=h.step.output,drawn:=h.step.drawn
   size:=by rw[VS];exact h.step.size
   frame:=fun b' hb hn=>by
    have hne:b'≠b:=fun e=>by
     rw[e]at hb hn
     rcases h.step.dom b hin with h1|h1
     ·exact hn h1
     ·omega
    rw[zK w b b' _ hne];exact h.step.frame b' hb hn
   imm:=h.step.imm
   kept:=fun b' cs' E fz h1 h2=>by
    obtain⟨cs2,E2,fz2,h3,h4⟩:=h.step.kept b' cs' E fz h1 h2
    grind [zK]
   dom:=fun b' hb=>h.step.dom b' (by simp_all[yT]) } }
theorem zF.newO {c:Ctx} {s:St} {a:Act} {w:World} {g:Gh} {β:Nat->Nat} (h:zF c s a w g β) {o:Obj} {x:HObj}
  (hx:∀g':Gh,g'.imm=g.imm->X8 c.P g' (World.push' w o) w.heap.size x) :
  zF c { s with H:=(w.heap.size,x)::s.H } a (World.push' w o) g β/\w.heap.size∉s.H.keys:=by
 have h':=h.push o 0 (by omega)
 have eg:({ g with imm:=upd g.imm w.heap.size 0 }:Gh)=g:=by
  have:upd g.imm w.heap.size 0=g.imm:=by
   funext b;simp only[upd];split
   ·rename_i e;rw[e,ZJ h.rep.imm (Nat.le_refl _)]
   ·rfl
  rw[this]
 rw[eg]at h'
 have hnot:w.heap.size∉s.H.keys:=fun hin=>absurd (zhF h.rep hin) (Nat.lt_irrefl _)
 have hkeys:∀b,b∈q8.keys ((w.heap.size,x)::s.H)<->b=w.heap.size\/b∈s.H.keys:=fun b=>by simp[q8.keys]
 refine⟨{ h' with env:=fun t=>?_,locs:=fun j d' y e=>?_,rep:=⟨h'.rep.imm,?_,fun b o hb=>?_,h'.rep.tab⟩,toks:=fun j t e=>?_,step:=?_ },hnot⟩
 ·exact y8 (Gh.le_refl g) h'.rep.imm (fun b cs E fz _ hb=>⟨cs,E,fz,hb,rfl,fun _ _=>rfl⟩) (fun j d' y e=>⟨y,e,rfl⟩) (h'.env t)
 ·have:=h'.locs j d' y e
  refine { this with noH:=fun hin=>?_ }
  rcases(hkeys _).1 hin with h1|h1
  ·obtain⟨cs',h2,_⟩:=(h.locs j d' y e).block
   have:=kR h2;omega
  ·exact this.noH h1
 ·show (q8.keys _).Nodup
  simp only[q8.keys,List.map_cons,List.nodup_cons]
  exact⟨hnot,h.rep.nodup⟩
 ·rcases List.mem_cons.1 hb with h1|h1
  ·simp_all
  ·exact h'.rep.obj b o h1
 ·have:=h'.toks j t e
  refine { this with noH:=fun hin=>?_ }
  rcases(hkeys _).1 hin with h1|h1
  ·obtain⟨cs',h2,_⟩:=(h.toks j t e).block
   have:=kR h2;omega
  ·exact this.noH h1
 ·refine { h'.step with dom:=fun b hb=>?_ }
  rcases(hkeys _).1 hb with h1|h1
  ·right;rw[h1];exact h.step.size
  ·exact h'.step.dom b h1
end Go.Ab
end
