/- A part of the proof; what it holds is told at each theorem. -/
import Derived.Test.YtpijolohkdchcaaGreatDoorFiE
set_option linter.unusedVariables false
set_option linter.unusedSimpArgs false
set_option linter.unusedSectionVars false
set_option linter.deprecated false
noncomputable section
namespace Go.Proofs
open Go Go.RowKit Go.Vm
abbrev Bag := List (Int×Int)
def Each (how:Bag→Bag→Option (Bag×Int))(a b r:List Bag):Prop:=∀(j:Nat) x y,a[j]? = some x→b[j]? = some y→∃z,r[j]? = some z∧how x y=some (z,0)
def Can (how:Bag→Bag→Option (Bag×Int))(a b:List Bag):Prop:=∀(j:Nat) x y,a[j]? = some x→b[j]? = some y→∃z,how x y=some (z,0)
theorem getq {α:Type}{l:List α}{i:Nat}(h:i<l.length):l[i]? = some l[i]:=List.getElem?_eq_getElem h
theorem QtR (a m:List Bag)(ha:lenL (lenL fun _=>True) a)(hm:lenL (lenL fun _=>True) m)(hl:a.length=m.length)(h:∀(j:Nat) x y,a[j]? = some x→m[j]? = some y→Rt x∧Rt y∧∀k,cntL x k≤cntL y k):Qch a m=some true:=by
 unfold Qch QI
 rw [show((a.length:Int) != (m.length:Int))=false by simp;omega,cond_false]
 obtain⟨r,h1,h2⟩:=(TotP.up (body:=fun st=>Qu a m st) a.length (fun st=>st) (fun _=>True) (Q:=fun q:Unit⊕Unit=>q=.inr ()) (s0:=(0:Int)) rfl trivial (fun i st hi hn hJ=>by
  show TotP (Qu a m st) _
  unfold Qu
  refine TotP.bif (fun hc=>?_) (fun _=>TotP.ok (Qn rfl))
  simp only [decide_eq_true_eq]at hc
  have i1:i<a.length:=by omega
  have i2:i<m.length:=by omega
  rw [hi,QbB,getq i1,Option.bind_some,QbB,getq i2,Option.bind_some]
  obtain⟨r,hr,hr2⟩:=Ql8 a[i] m[i] (ha.2 _ (List.getElem_mem i1)).1 (hm.2 _ (List.getElem_mem i2)).1
  rw [hr,Option.bind_some,hr2.2 (h i _ _ (getq i1) (getq i2))]
  exact TotP.ok (QD ⟨i1,Qy i1 ha.1,trivial⟩)))
 rw [h1,h2];rfl
theorem Qs9 {n:TNet}{m m' need:List Bag}{o:Qk}{e:Qr}(h:Qb9 n m o=some 0)(he:idx n.Tasks o.Task=some e)(hj:e.Join≠3)(hneed:QbF n o=some (need,0))(hw:Qch need m'=some true):Qb9 n m' o=some 0:=by
 unfold Qb9 QeA at h ⊢
 unfold QbF at hneed
 obtain⟨v,hv,hneed⟩:=Qb hneed
 obtain⟨v1,v2⟩:=v
 rcases bifE hneed with⟨c,hneed⟩|⟨c,hneed⟩
 ·simp only [Option.some.injEq,Prod.mk.injEq]at hneed
  simp only [hneed.2]at c;cases c
 simp only [bne_eq_false_iff_eq]at c
 subst c
 rw [he,Option.bind_some]at hneed
 obtain⟨tk,htk,hneed⟩:=Qb hneed
 obtain⟨tk1,tk2⟩:=tk
 simp only [Option.some.injEq,Prod.mk.injEq]at hneed
 obtain⟨rfl,rfl⟩:=hneed
 simp only [hv,Option.bind_some,show((0:Int) != 0)=false from rfl,cond_false,he,show((0:Int)==0)=true from rfl,cond_true]at h ⊢
 obtain⟨g,hg,h⟩:=Qb h
 rw [show Qa0 (QA.mk n m' e v1)=some g from hg,Option.bind_some]
 unfold QcH at h ⊢
 rcases bifE h with⟨c,h⟩|⟨c,h⟩
 ·simp only [Option.some.injEq]at h;rw [h]at c;cases c
 rw [c,cond_false]
 obtain⟨b,hb,h⟩:=Qb h
 rw [show Qhx (0,QA.mk n m' e v1) o=some b from hb,Option.bind_some]
 unfold QdD at h ⊢
 rcases bifE h with⟨_,h⟩|⟨c,h⟩
 ·cases h
 rw [c,cond_false]
 obtain⟨tt,ht,h⟩:=Qb h
 rcases bifE h with⟨c,h⟩|⟨_,h⟩
 ·simp only [Option.some.injEq]at h;rw [h]at c;cases c
 have:QaS (QA.mk n m' e v1) o.Ins=some 0:=by
  unfold QaS
  simp only [htk,Option.bind_some,show((0:Int) != 0)=false from rfl,cond_false,hw,Bool.not_true]
  rw [show(e.Join != 3)=true by simpa using hj];rfl
 simp only [this,Option.bind_some,show((0:Int) != 0)=false from rfl,cond_false]
 exact h
theorem Qqz {a b r:Bag}(h:a.length+b.length≤4294967296)(e:QM a b=some (r,0)):Rt a∧Rt b∧Rt r∧∀k,cntL r k=cntL a k+cntL b k:=by
 rcases Qdy a b h with⟨_,e'⟩|⟨_,_,_,e'⟩|⟨h1,h2,r',e',h3,h4,_⟩
 ·rw [e]at e';cases e'
 ·rw [e]at e';cases e'
 ·rw [e]at e';cases e';exact⟨h1,h2,h3,h4⟩
theorem QuK {a b:Bag}(h:a.length+b.length≤4294967296)(ha:Rt a)(hb:Rt b)(hk:∀k,cntL a k+cntL b k≤1048576):∃r,QM a b=some (r,0):=by
 rcases Qdy a b h with⟨h1,e'⟩|⟨_,_,⟨k,h1⟩,e'⟩|⟨h1,h2,r',e',h3,h4,_⟩
 ·exact absurd ⟨ha,hb⟩ h1
 ·have:=hk k;omega
 ·exact⟨r',e'⟩
theorem Qq0 {a b r:Bag}(h:a.length+b.length≤4294967296)(e:QaM a b=some (r,0)):Rt a∧Rt b∧Rt r∧(∀k,cntL b k≤cntL a k)∧∀k,cntL r k=cntL a k-cntL b k:=by
 rcases QiT a b h with⟨_,e'⟩|⟨_,_,_,e'⟩|⟨h1,h2,h5,r',e',h3,h4,_⟩
 ·rw [e]at e';cases e'
 ·rw [e]at e';cases e'
 ·rw [e]at e';cases e';exact⟨h1,h2,h3,h5,h4⟩
theorem Quk {a b:Bag}(h:a.length+b.length≤4294967296)(ha:Rt a)(hb:Rt b)(hk:∀k,cntL b k≤cntL a k):∃r,QaM a b=some (r,0):=by
 rcases QiT a b h with⟨h1,e'⟩|⟨_,_,⟨k,h1⟩,e'⟩|⟨h1,h2,_,r',e',h3,h4,_⟩
 ·exact absurd ⟨ha,hb⟩ h1
 ·have:=hk k;omega
 ·exact⟨r',e'⟩
theorem Qj1 {n:TNet}{c:Nat}{m:List Bag}(hm:MOk n c m){j:Nat}(hj:j<n.Places.length):∃b,m[j]? = some b∧Rt b∧b.length≤c:=by
 have:j<m.length:=by have:=hm.1;omega
 exact⟨m[j],getq this,hm.2 _ (List.getElem_mem this)⟩
theorem Qk6 {n:TNet}{c:Nat}{m:List Bag}(hm:MOk n c m){j:Nat}{b:Bag}(h:m[j]? = some b):j<n.Places.length∧Rt b∧b.length≤c:=by
 obtain⟨h1,rfl⟩:=List.getElem?_eq_some_iff.1 h
 exact⟨by have:=hm.1;omega,hm.2 _ (List.getElem_mem h1)⟩
end Go.Proofs
