/- What has ended made each of its outs once: plain. No condition. -/
import Derived.Test.YtdkieabmeiojjaaGreatDoorBX7ToBR1
set_option linter.unusedSimpArgs false
set_option linter.unusedVariables false
set_option linter.unusedSectionVars false
set_option maxRecDepth 100000
namespace Go.Proofs.YtdkieabmeiojjaaGreatDoor
open Go Go.Ab
open Classical
variable [Sel] [SelPow] [SelMax]
def zey (d:List Txt) (p:Txt):List Txt:=if p∈d then d else d++[p]
def ddU (l:List Txt):List Txt:=l.foldl zey []
theorem zll {d:List Txt} {p:Txt} (h:d.Nodup):(zey d p).Nodup:=by
 grind [zey]
theorem zlm {d:List Txt} {p q:Txt}:q∈zey d p<->q∈d\/q=p:=by
 grind [zey]
theorem zjA:∀(l d:List Txt),d.Nodup->(l.foldl zey d).Nodup/\∀q,q∈l.foldl zey d<->q∈d\/q∈l
 | [],d,h=>⟨h,by simp⟩
 | p::l,d,h=>by
  obtain⟨h1,h2⟩:=zjA l (zey d p) (zll h)
  simp_all[zlm,or_assoc]
theorem zmP (l:List Txt):(ddU l).Nodup:=(zjA l [] List.nodup_nil).1
theorem zgF {l:List Txt} {q:Txt}:q∈ddU l<->q∈l:=by
 simp[zjA,ddU]
def ziP (l:List Txt):Prop:=l.Pairwise fun a b=>a<b
theorem zju (l:List Txt):(k7 l).Pairwise fun a b=>a<=b:=by
 have h1:=List.pairwise_mergeSort (le:=fun(a b:Txt)=>decide (a<=b)) (fun a b c h1 h2=>by grind) (fun a b=>by grind) l
 exact h1.imp fun h=>by simpa using h
theorem zg5 {l:List Txt} (h:l.Nodup):ziP (k7 l):=by
 have h2:(k7 l).Nodup:=(ZO l).nodup_iff.2 h
 unfold ziP
 have h3:(k7 l).Pairwise fun a b=>a<=b/\a≠b:=List.Pairwise.and (zju l) h2
 exact h3.imp fun h=>Std.lt_of_le_of_ne h.1 h.2
theorem ziP.at_ {l:List Txt} (h:ziP l) (k:Nat) (hk:k+1<l.length):Op.bytesLess l[k] l[k+1]=true:=by
 rw[Go.Proofs.bytesLess_eq]
 simpa using List.pairwise_iff_getElem.1 h k (k+1) (by omega) hk (by omega)
theorem WN.ends {env:List (Txt × Txt)} {cs:List CmdV} {outs:List Txt} {may:Txt->Bool} {kn:List KnV} {b:zJ} (h:WN env cs outs may kn b) (ho:b.over=true) :
  (b.why=0/\(ZH b).1=⟨1,0,JA b,b.reads⟩/\ziP ((JA b).map (·.path))/\(∀p,p∈(JA b).map (·.path)<->p∈outs)/\(JA b).length=(ddU outs).length)\/(b.why≠0/\(ZH b).1=⟨2,b.why,[],b.reads⟩):=by
 obtain⟨wr,hs⟩:=h.s
 have hp:(JA b).map (·.path)=k7 (b.wrote.map (·.1)):=by
  unfold JA
  rw[List.map_map]
  exact List.map_id' _
 rcases hs.out ho with⟨h1,h2⟩|h1
 ·left
  have hwp:=pU hs.wrote
  have hri:ziP ((JA b).map (·.path)):=by rw[hp,hwp];exact zg5 hs.nod
  have hme:∀p,p∈(JA b).map (·.path)<->p∈outs:=by
   intro p
   rw[hp,hwp,(ZO _).mem_iff]
   exact⟨fun hm=>by obtain⟨w,hw,rfl⟩:=List.mem_map.1 hm;exact hs.own w hw,fun hm=>h2 p hm⟩
  refine⟨h1,by simp_all[ZH],hri,hme,?_⟩
  have hnd:((JA b).map (·.path)).Nodup:=by rw[hp,hwp];exact(ZO _).nodup_iff.2 hs.nod
  have a1:((JA b).map (·.path)).length<=(ddU outs).length:=List.Nodup.length_le_of_subset hnd fun p hm=>zgF.2 ((hme p).1 hm)
  have a2:(ddU outs).length<=((JA b).map (·.path)).length:=List.Nodup.length_le_of_subset (zmP _) fun p hm=>(hme p).2 (zgF.1 hm)
  grind
 simp_all[ZH]
end Go.Proofs.YtdkieabmeiojjaaGreatDoor
