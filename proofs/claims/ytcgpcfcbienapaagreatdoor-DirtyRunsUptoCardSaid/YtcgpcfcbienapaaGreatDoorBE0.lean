/- What has ended made each of its outs once: plain. No condition beyond each theorem's own. -/
import Derived.Test.YtcgpcfcbienapaaGreatDoorBX5ToBR1
import Derived.Sort.Walk0
set_option linter.unusedSimpArgs false
set_option linter.unusedVariables false
set_option linter.unusedSectionVars false
set_option maxRecDepth 100000
/-! What has ended made each of its outs once: plain. -/
namespace Go.Proofs.YtcgpcfcbienapaaGreatDoor
open Go Go.Ab
open Classical
variable [Sel] [SelPow] [SelMax]

def VT (d:List Txt) (p:Txt):List Txt:=if p∈d then d else d++[p]
def ddU (l:List Txt):List Txt:=l.foldl VT []
theorem zil {d:List Txt} {p:Txt} (h:d.Nodup):(VT d p).Nodup:=by
 grind [VT]
theorem zjS {d:List Txt} {p q:Txt}:q∈VT d p↔q∈d∨q=p:=by
 grind [VT]
theorem zjx:∀(l d:List Txt),d.Nodup→(l.foldl VT d).Nodup∧∀q,q∈l.foldl VT d↔q∈d∨q∈l
 | [],d,h=>⟨h,by simp⟩
 | p::l,d,h=>by
  obtain⟨h1,h2⟩:=zjx l (VT d p) (zil h)
  simp_all[zjS,or_assoc]
theorem zg5 (l:List Txt):(ddU l).Nodup:=(zjx l [] List.nodup_nil).1
theorem P0 {l:List Txt} {q:Txt}:q∈ddU l↔q∈l:=by
 simp[zjx,ddU]
def zea (l:List Txt):Prop:=l.Pairwise fun a b=>a<b
theorem ziL (l:List Txt):(kK l).Pairwise fun a b=>a≤b:=by
 have h1:=List.pairwise_mergeSort (le:=fun(a b:Txt)=>decide (a≤b)) (fun a b c h1 h2=>by grind) (fun a b=>by grind) l
 exact h1.imp fun h=>by simpa using h
theorem zf5 {l:List Txt} (h:l.Nodup):zea (kK l):=by
 have h2:(kK l).Nodup:=(W0 l).nodup_iff.2 h
 unfold zea
 have h3:(kK l).Pairwise fun a b=>a≤b∧a≠b:=List.Pairwise.and (ziL l) h2
 exact h3.imp fun h=>Std.lt_of_le_of_ne h.1 h.2
theorem zea.at_ {l:List Txt} (h:zea l) (k:Nat) (hk:k+1<l.length):Op.bytesLess l[k] l[k+1]=true:=by
 rw[Go.Proofs.bytesLess_eq]
 simpa using List.pairwise_iff_getElem.1 h k (k+1) (by omega) hk (by omega)
theorem Z4.ends {env:List (Txt × Txt)} {cs:List CmdV} {outs:List Txt} {may:Txt→Bool} {kn:List KnV} {b:zCU} (h:Z4 env cs outs may kn b) (ho:b.over=true) :
  (b.why=0∧(yD b).1=⟨1,0,ZH b,b.reads⟩∧zea ((ZH b).map (·.path))∧(∀p,p∈(ZH b).map (·.path)↔p∈outs)∧(ZH b).length=(ddU outs).length)∨(b.why≠0∧(yD b).1=⟨2,b.why,[],b.reads⟩):=by
 obtain⟨wr,hs⟩:=h.s
 have hp:(ZH b).map (·.path)=kK (b.wrote.map (·.1)):=by
  unfold ZH
  rw[List.map_map]
  exact List.map_id' _
 rcases hs.out ho with⟨h1,h2⟩|h1
 ·left
  have hwp:=GC hs.wrote
  have hri:zea ((ZH b).map (·.path)):=by rw[hp,hwp];exact zf5 hs.nod
  have hme:∀p,p∈(ZH b).map (·.path)↔p∈outs:=by
   intro p
   rw[hp,hwp,(W0 _).mem_iff]
   exact⟨fun hm=>by obtain⟨w,hw,rfl⟩:=List.mem_map.1 hm;exact hs.own w hw,fun hm=>h2 p hm⟩
  refine⟨h1,by simp_all[yD],hri,hme,?_⟩
  have hnd:((ZH b).map (·.path)).Nodup:=by rw[hp,hwp];exact(W0 _).nodup_iff.2 hs.nod
  have a1:((ZH b).map (·.path)).length≤(ddU outs).length:=List.Nodup.length_le_of_subset hnd fun p hm=>P0.2 ((hme p).1 hm)
  have a2:(ddU outs).length≤((ZH b).map (·.path)).length:=List.Nodup.length_le_of_subset (zg5 _) fun p hm=>(hme p).2 (P0.1 hm)
  grind
 simp_all[yD]
theorem zbN {a:xW} (h:vA a≤2000):zky a:=by
 unfold vA at h
 have h1:=pU a.env
 have h2:=WB a.ins
 have h3:=WB a.asks
 have h4:=WB a.outs
 exact⟨by omega,by omega,fun x hx=>by have:=zmB hx;omega,by omega,by omega,fun x hx=>by have:=zll hx;omega,by omega⟩
theorem zgi {l:List KnV} (h:knW l≤5000):(∀k∈l,k.data.length≤65536)∧l.length≤5000 :=
 ⟨fun k hk=>by have:=zfR hk;omega,by grind [zbK]⟩
end Go.Proofs.YtcgpcfcbienapaaGreatDoor
