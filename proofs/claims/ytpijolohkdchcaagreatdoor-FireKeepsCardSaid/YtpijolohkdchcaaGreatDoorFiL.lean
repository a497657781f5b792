/- A part of the proof; what it holds is told at each theorem. -/
import Derived.Test.YtpijolohkdchcaaGreatDoorFiE
set_option linter.unusedVariables false
set_option linter.unusedSimpArgs false
set_option linter.unusedSectionVars false
set_option linter.deprecated false
noncomputable section
namespace Go.Proofs
open Go Go.RowKit Go.Vm
abbrev Bag := List (Int×Int)
def Each (how:Bag→Bag→Option (Bag×Int))(a b r:List Bag):Prop:=∀(j:Nat) x y,a[j]? = some x→b[j]? = some y→∃z,r[j]? = some z∧how x y=some (z,0)
def Can (how:Bag→Bag→Option (Bag×Int))(a b:List Bag):Prop:=∀(j:Nat) x y,a[j]? = some x→b[j]? = some y→∃z,how x y=some (z,0)
theorem getq {α:Type}{l:List α}{i:Nat}(h:i<l.length):l[i]? = some l[i]:=List.getElem?_eq_getElem h
theorem Qub {a b r:Bag}(h:a.length+b.length≤4294967296)(e:QaO a b=some (r,0)):Rt a∧Rt b∧Rt r∧∀k,cntL r k=cntL a k+cntL b k:=by
 rcases Qig a b h with⟨_,e'⟩|⟨_,_,_,e'⟩|⟨h1,h2,r',e',h3,h4,_⟩
 ·rw [e]at e';cases e'
 ·rw [e]at e';cases e'
 ·rw [e]at e';cases e';exact⟨h1,h2,h3,h4⟩
theorem Qvc {a b:Bag}(h:a.length+b.length≤4294967296)(ha:Rt a)(hb:Rt b)(hk:∀k,cntL a k+cntL b k≤1048576):∃r,QaO a b=some (r,0):=by
 rcases Qig a b h with⟨h1,e'⟩|⟨_,_,⟨k,h1⟩,e'⟩|⟨h1,h2,r',e',h3,h4,_⟩
 ·exact absurd ⟨ha,hb⟩ h1
 ·have:=hk k;omega
 ·exact⟨r',e'⟩
theorem Qvd {a b r:Bag}(h:a.length+b.length≤4294967296)(e:QaX a b=some (r,0)):Rt a∧Rt b∧Rt r∧(∀k,cntL b k≤cntL a k)∧∀k,cntL r k=cntL a k-cntL b k:=by
 rcases Qlc a b h with⟨_,e'⟩|⟨_,_,_,e'⟩|⟨h1,h2,h5,r',e',h3,h4,_⟩
 ·rw [e]at e';cases e'
 ·rw [e]at e';cases e'
 ·rw [e]at e';cases e';exact⟨h1,h2,h3,h5,h4⟩
theorem QrV {n:TNet}{c:Nat}{m:List Bag}(hm:MOk n c m){j:Nat}(hj:j<n.Places.length):∃b,m[j]? = some b∧Rt b∧b.length≤c:=by
 have:j<m.length:=by have:=hm.1;omega
 exact⟨m[j],getq this,hm.2 _ (List.getElem_mem this)⟩
theorem QqS {n:TNet}{c:Nat}{m:List Bag}(hm:MOk n c m){j:Nat}{b:Bag}(h:m[j]? = some b):j<n.Places.length∧Rt b∧b.length≤c:=by
 obtain⟨h1,rfl⟩:=List.getElem?_eq_some_iff.1 h
 exact⟨by have:=hm.1;omega,hm.2 _ (List.getElem_mem h1)⟩
end Go.Proofs
