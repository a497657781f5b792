/- A part of the proof; what it holds is told at each theorem. -/
import Derived.Test.YtmhljalpjhdpeaaGreatDoorFiE
set_option linter.unusedVariables false
set_option linter.unusedSimpArgs false
set_option linter.unusedSectionVars false
set_option linter.deprecated false
noncomputable section
namespace Go.Proofs
open Go Go.RowKit Go.Vm
abbrev Bag := List (Int×Int)
def Each (how:Bag→Bag→Option (Bag×Int))(a b r:List Bag):Prop:=∀(j:Nat) x y,a[j]? = some x→b[j]? = some y→∃z,r[j]? = some z∧how x y=some (z,0)
theorem getq {α:Type}{l:List α}{i:Nat}(h:i<l.length):l[i]? = some l[i]:=List.getElem?_eq_getElem h
theorem QsX (a m:List Bag)(ha:lenL (lenL fun _=>True) a)(hm:lenL (lenL fun _=>True) m)(hl:a.length=m.length)(h:∀(j:Nat) x y,a[j]? = some x→m[j]? = some y→Rt x∧Rt y∧∀k,cntL x k≤cntL y k):QaM a m=some true:=by
 unfold QaM QE
 rw [show((a.length:Int) != (m.length:Int))=false by simp;omega,cond_false]
 obtain⟨r,h1,h2⟩:=(TotP.up (body:=fun st=>Qo a m st) a.length (fun st=>st) (fun _=>True) (Q:=fun q:Unit⊕Unit=>q=.inr ()) (s0:=(0:Int)) rfl trivial (fun i st hi hn hJ=>by
  show TotP (Qo a m st) _
  unfold Qo
  refine TotP.bif (fun hc=>?_) (fun _=>TotP.ok (Qn rfl))
  simp only [decide_eq_true_eq]at hc
  have i1:i<a.length:=by omega
  have i2:i<m.length:=by omega
  rw [hi,QaW,getq i1,Option.bind_some,QaW,getq i2,Option.bind_some]
  obtain⟨r,hr,hr2⟩:=Qjp a[i] m[i] (ha.2 _ (List.getElem_mem i1)).1 (hm.2 _ (List.getElem_mem i2)).1
  rw [hr,Option.bind_some,hr2.2 (h i _ _ (getq i1) (getq i2))]
  exact TotP.ok (QC ⟨i1,Qz i1 ha.1,trivial⟩)))
 rw [h1,h2];rfl
theorem Qug {a b r:Bag}(h:a.length+b.length≤4294967296)(e:Qb2 a b=some (r,0)):Rt a∧Rt b∧Rt r∧∀k,cntL r k=cntL a k+cntL b k:=by
 rcases Qjo a b h with⟨_,e'⟩|⟨_,_,_,e'⟩|⟨h1,h2,r',e',h3,h4,_⟩
 ·rw [e]at e';cases e'
 ·rw [e]at e';cases e'
 ·rw [e]at e';cases e';exact⟨h1,h2,h3,h4⟩
theorem QuE {n:TNet}{c:Nat}{m:List Bag}(hm:MOk n c m){j:Nat}(hj:j<n.Places.length):∃b,m[j]? = some b∧Rt b∧b.length≤c:=by
 have:j<m.length:=by have:=hm.1;omega
 exact⟨m[j],getq this,hm.2 _ (List.getElem_mem this)⟩
theorem QuF {n:TNet}{c:Nat}{m:List Bag}(hm:MOk n c m){j:Nat}{b:Bag}(h:m[j]? = some b):j<n.Places.length∧Rt b∧b.length≤c:=by
 obtain⟨h1,rfl⟩:=List.getElem?_eq_some_iff.1 h
 exact⟨by have:=hm.1;omega,hm.2 _ (List.getElem_mem h1)⟩
end Go.Proofs
