/- A part of the proof; what it holds is told at each theorem. -/
import Derived.Test.YtpijolohkdchcaaGreatDoorXVmM
import Derived.Orders
set_option linter.unusedVariables false
set_option linter.unusedSimpArgs false
set_option linter.unusedSectionVars false
set_option linter.deprecated false
namespace Go.Vm
open Go Go.RowKit
structure DF where
 d:Nat
 v:V
 ob:Option Ob
def St.addF (σ:St)(x:DF):St:=match x.ob with
 | none=>σ.put x.d x.v
 | some ob=>(σ.set x.d ob).put x.d x.v
def hasF (σ:St)(x:DF):Prop:=look σ.fr x.d=some x.v∧∀ob,x.ob=some ob→look σ.hp x.d=some ob
def QaW (P:Program)(C:Ctx)(ops:Array Oper)(o:Oper)(σ σ':St):Prop:=
 ∀a w,R C σ a w→∀(K:Act→World→Prop) (Q:Exit→Act→World→Prop),(∀a' w',R C σ' a' w'→K a' w')→
  if Region.wanted o (yielded ops a.tmps)then o.wpIn C.F 0 P a w K Q else K (a.put o.dst undef) w
section
variable {P:Program}{C:Ctx}{ops:Array Oper}{σ σ':St}{Q:Exit→St→Prop}{o:Oper}
theorem QaW.run (hg:o.guard=none)(h:Stp P C o σ σ'):QaW P C ops o σ σ':=by
 intro a w hR K Q hK
 simp only [Region.wanted,hg,if_true]
 exact h a w hR K Q hK
theorem QaW.runG {j d:Nat}{c t:Bool}(hg:o.guard=some (j,t))(hj:((ops[j]?).bind (·.dst))=some d)(hv:look σ.fr d=some (.b c))(hc:c=t)(h:Stp P C o σ σ'):QaW P C ops o σ σ':=by
 intro a w hR K Q hK
 subst hc
 simp only [Region.wanted,hg,hR.yielded hj hv,beq_self_eq_true,if_true]
 exact h a w hR K Q hK
theorem QaW.pass {j d t:Nat}{c u:Bool}(hg:o.guard=some (j,u))(hj:((ops[j]?).bind (·.dst))=some d)(hv:look σ.fr d=some (.b c))(hc:c=!u)(ho:o.dst=some t)(ht:Nat.ble (t+1) C.n=true):
  QaW P C ops o σ (σ.put t (.lit undef)):=by
 intro a w hR K Q hK
 simp only [Region.wanted,hg,hR.yielded hj hv]
 rw [if_neg (by subst hc;cases u<;>decide)]
 obtain⟨φ,hr⟩:=hR
 rw [ho]
 exact hK _ _ ⟨φ,hr.put (Nat.le_of_ble_eq_true ht) (.dat (.lit _))⟩
theorem QaW.passU {j d t:Nat}{u:Bool}(hg:o.guard=some (j,u))(hj:((ops[j]?).bind (·.dst))=some d)(hv:look σ.fr d=some (.lit undef))(ho:o.dst=some t)(ht:Nat.ble (t+1) C.n=true):
  QaW P C ops o σ (σ.put t (.lit undef)):=by
 intro a w hR K Q hK
 simp only [Region.wanted,hg,hR.unyielded hj hv]
 rw [if_neg (by simp)]
 obtain⟨φ,hr⟩:=hR
 rw [ho]
 exact hK _ _ ⟨φ,hr.put (Nat.le_of_ble_eq_true ht) (.dat (.lit _))⟩
def depB (o:Oper)(j:Nat):Bool:=o.after.toList.any fun e=>Region.binds .any e&&Nat.beq e.on j
def ordB (ops:Array Oper):Bool:=(List.range ops.size).all fun i=>((ops[i]?).map fun o=>o.after.toList.all fun e=>!Region.binds .any e||Nat.ble (e.on+1) i).getD true
def Qgk : List Nat→Bool
 | []=>true
 | k::r=>!memB r k&&Qgk r
structure Mid (C:Ctx) (base:St) (fs:List DF) (listed:Array Bool) (σ:St):Prop where
 fr:∀t v,look base.fr t=some v→look σ.fr t=some v
 hp:∀o ob,look base.hp o=some ob→look σ.hp o=some ob
 did:∀(i:Nat) x,fs[i]? = some x→listed[i]? = some true→hasF σ x
 not:∀(i:Nat) x,fs[i]? = some x→listed[i]? ≠ some true→look σ.hp x.d=none
theorem Qjq {listed:Array Bool}{i:Nat}(hs:listed.size=ops.size):i∈Region.ready .any ops listed↔∃o,ops[i]? = some o∧listed[i]? = some false∧∀e∈o.after,Region.binds .any e=true→listed[e.on]? = some true:=by
 unfold Region.ready
 rw [List.mem_filter,List.mem_range]
 constructor
 ·rintro ⟨hi,h⟩
  rw [Bool.and_eq_true]at h
  obtain⟨h1,h2⟩:=h
  have hi':i<listed.size:=by omega
  refine⟨ops[i],Array.getElem?_eq_getElem hi,?_,?_⟩
  ·rw [Array.getElem?_eq_getElem hi']
   simp [Array.getD,hi']at h1
   rw [h1]
  ·intro e he hb
   simp only [Array.getElem?_eq_getElem hi,Option.map_some,Option.getD_some,Array.all_eq_true_iff_forall_mem]at h2
   have:=h2 e he
   simp only [hb,Bool.not_true,Bool.false_or]at this
   by_cases hlt:e.on<listed.size
   ·rw [Array.getElem?_eq_getElem hlt]
    simp [Array.getD,hlt]at this
    rw [this]
   ·simp [Array.getD,hlt]at this
 ·rintro ⟨o,ho,hl,hd⟩
  have hi:i<ops.size:=(Array.getElem?_eq_some_iff.1 ho).1
  refine⟨hi,?_⟩
  rw [Bool.and_eq_true]
  have hi':i<listed.size:=by omega
  rw [Array.getElem?_eq_getElem hi']at hl
  refine⟨by simp [Array.getD,hi',Option.some.inj hl],?_⟩
  simp only [ho,Option.map_some,Option.getD_some,Array.all_eq_true_iff_forall_mem]
  intro e he
  cases hb:Region.binds .any e with
  | false=>rfl
  | true=>
   have:=hd e he hb
   obtain⟨hlt,hv⟩:=Array.getElem?_eq_some_iff.1 this
   simp [Array.getD,hlt,hv]
def Down (ops:Array Oper)(listed:Array Bool):Prop:=∀(i:Nat) o,ops[i]? = some o→listed[i]? = some true→∀e∈o.after,Region.binds .any e=true→listed[e.on]? = some true
theorem Down.set {listed:Array Bool}(hs:listed.size=ops.size)(h:Down ops listed){i:Nat}(hi:i∈Region.ready .any ops listed):Down ops (listed.setIfInBounds i true):=by
 obtain⟨o,ho,hl,hd⟩:=(Qjq hs).1 hi
 have keep:∀(k:Nat),listed[k]? = some true→(listed.setIfInBounds i true)[k]? = some true:=by
  intro k hk
  rw [Array.getElem?_setIfInBounds]
  split
  ·rename_i e;subst e;rw [if_pos (Array.getElem?_eq_some_iff.1 hk).1]
  ·exact hk
 intro k o' ho' hk e he hb
 by_cases e1:i=k
 ·subst e1
  rw [ho]at ho';cases ho'
  exact keep _ (hd e he hb)
 ·rw [Array.getElem?_setIfInBounds_ne e1]at hk
  exact keep _ (h k o' ho' hk e he hb)
theorem Qsz (hord:ordB ops=true){listed:Array Bool}(hs:listed.size=ops.size){k:Nat}(hk:k<ops.size)(hl:listed[k]? ≠ some true)(hall:∀i,i<k→listed[i]? = some true):k∈Region.ready .any ops listed:=by
 rw [Qjq hs]
 have hk':k<listed.size:=by omega
 refine⟨ops[k],Array.getElem?_eq_getElem hk,?_,fun e he hb=>?_⟩
 ·rw [Array.getElem?_eq_getElem hk']at hl ⊢
  cases h:listed[k]with
  | true=>rw [h]at hl;exact absurd rfl hl
  | false=>rfl
 ·rw [ordB,List.all_eq_true]at hord
  have:=hord k (List.mem_range.2 hk)
  simp only [Array.getElem?_eq_getElem hk,Option.map_some,Option.getD_some,List.all_eq_true]at this
  have:=this e (Array.mem_toList_iff.2 he)
  simp only [hb,Bool.not_true,Bool.false_or]at this
  exact hall _ (Nat.le_of_ble_eq_true this)
theorem Qr0 {listed:Array Bool}(n:Nat)(h:∃i,i<n∧listed[i]? ≠ some true):∃k,k<n∧listed[k]? ≠ some true∧∀i,i<k→listed[i]? = some true:=by
 induction n with
 | zero=>obtain⟨i,hi,_⟩:=h;omega
 | succ n ih=>
  by_cases h':∃i,i<n∧listed[i]? ≠ some true
  ·obtain⟨k,h1,h2,h3⟩:=ih h';exact⟨k,by omega,h2,h3⟩
  ·obtain⟨i,hi,hn⟩:=h
   have:i=n:=by
    rcases Nat.lt_or_ge i n with h | h
    ·exact absurd ⟨i,h,hn⟩ h'
    ·omega
   subst this
   refine⟨i,by omega,hn,fun j hj=>?_⟩
   by_cases hj2:listed[j]? = some true
   ·exact hj2
   ·exact absurd ⟨j,hj,hj2⟩ h'
theorem QhT {l:List Nat}{k:Nat}:memB l k=true↔k∈l:=by
 induction l with
 | nil=>simp [memB]
 | cons x l ih=>
  simp only [memB,Bool.or_eq_true,ih,List.mem_cons]
  constructor
  ·rintro (h | h)
   ·exact .inl (Nat.eq_of_beq_eq_true h).symm
   ·exact .inr h
  ·rintro (h | h)
   ·subst h;exact .inl (by simp)
   ·exact .inr h
theorem QbX {l:List Nat}:Qgk l=true↔l.Nodup:=by
 induction l with
 | nil=>simp [Qgk]
 | cons x l ih=>
  simp only [Qgk,Bool.and_eq_true,ih,List.nodup_cons]
  constructor
  ·rintro ⟨h1,h2⟩
   refine⟨fun hm=>?_,h2⟩
   rw [QhT.2 hm]at h1;cases h1
  ·rintro ⟨h1,h2⟩
   refine⟨?_,h2⟩
   cases hb:memB l x with
   | false=>rfl
   | true=>exact absurd (QhT.1 hb) h1
end
end Go.Vm
