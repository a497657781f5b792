/- A part of the proof; what it holds is told at each theorem. -/
import Derived.Test.YtmhljalpjhdpeaaGreatDoorXPlT
set_option linter.unusedVariables false
set_option linter.unusedSimpArgs false
set_option linter.unusedSectionVars false
set_option linter.deprecated false
namespace Go.Vm
open Go Go.RowKit
def upL : Int→Nat→List Int
 | _,0=>[]
 | x,k+1=>x::upL (x+1) k
def binds : List Int→List (List Int)
 | []=>[[]]
 | s::r=>(0::upL 1 (s-1).toNat).flatMap fun x=>(binds r).map (x::·)
def Qcx : List Int→List Int→List (List Int)
 | s::r,x::d=>(Qcx r d).map (x::·)++(upL (x+1) (s-(x+1)).toNat).flatMap fun y=>(binds r).map (y::·)
 | _,_=>[]
def Qhx (l:List Int):List Int:=List.replicate l.length 0
theorem Qov (l:List Int):binds l=Qhx l::Qcx l (Qhx l):=by
 induction l with
 | nil=>rfl
 | cons s r ih=>
  show(0::upL 1 (s-1).toNat).flatMap (fun x=>(binds r).map (x::·))=(0::Qhx r)::((Qcx r (Qhx r)).map (0::·)++(upL (0+1) (s-(0+1)).toNat).flatMap fun y=>(binds r).map (y::·))
  rw [List.flatMap_cons,Int.zero_add]
  have:(binds r).map (fun x=>(0:Int)::x)=(0::Qhx r)::(Qcx r (Qhx r)).map (0::·):=by rw [ih];rfl
  rw [this];rfl
def Qkp : List Int→List Int→Option (List Int)
 | s::r,x::d=>match Qkp r d with
  | some e=>some (x::e)
  | none=>if x+1<s then some ((x+1)::Qhx r)else none
 | _,_=>none
theorem Qsb : ∀l d:List Int,Qcx l d=match Qkp l d with
  | none=>[]
  | some e=>e::Qcx l e:=by
 intro l
 induction l with
 | nil=>intro d;rfl
 | cons s r ih=>
  intro d
  cases d with
  | nil=>rfl
  | cons x d=>
   have h:=ih d
   rw [Qkp]
   cases e:Qkp r d with
   | some e'=>
    rw [e]at h
    simp only [Qcx,h];rfl
   | none=>
    rw [e]at h
    simp only at h
    simp only [Qcx,h,List.map_nil,List.nil_append]
    by_cases c:x+1<s
    ·rw [if_pos c]
     rw [show(s-(x+1)).toNat=(s-(x+1+1)).toNat+1 by omega,upL,List.flatMap_cons]
     have:(binds r).map (fun z=>(x+1)::z)=((x+1)::Qhx r)::(Qcx r (Qhx r)).map ((x+1)::·):=by rw [Qov r];rfl
     rw [this];rfl
    ·rw [if_neg c,show(s-(x+1)).toNat=0 by omega];rfl
theorem Qqi : ∀l d:List Int,(∀(j:Nat) x s,d[j]? = some x→l[j]? = some s→¬x+1<s)→Qkp l d=none:=by
 intro l
 induction l with
 | nil=>intro d _;cases d<;>rfl
 | cons s r ih=>
  intro d h
  cases d with
  | nil=>rfl
  | cons x d=>
   rw [Qkp,ih d fun j y z h1 h2=>h (j+1) y z (by simpa using h1) (by simpa using h2)]
   simp only
   rw [if_neg (h 0 x s rfl rfl)]
theorem QtJ : ∀(k:Nat) (l d:List Int) (x s:Int),l.length=d.length→d[k]? = some x→l[k]? = some s→x+1<s→(∀(j:Nat) y z,k<j→d[j]? = some y→l[j]? = some z→¬y+1<z)→
  Qkp l d=some (d.take k++(x+1)::List.replicate (d.length-(k+1)) 0):=by
 intro k
 induction k with
 | zero=>
  intro l d x s hl hd hs hlt ha
  cases l with
  | nil=>cases hs
  | cons s' r=>
   cases d with
   | nil=>cases hd
   | cons x' d=>
    simp only [List.getElem?_cons_zero,Option.some.injEq]at hd hs
    subst hd;subst hs
    rw [Qkp,Qqi r d fun j y z h1 h2=>ha (j+1) y z (by omega) (by simpa using h1) (by simpa using h2)]
    simp only
    rw [if_pos hlt]
    simp only [List.length_cons]at hl
    simp [Qhx];omega
 | succ k ih=>
  intro l d x s hl hd hs hlt ha
  cases l with
  | nil=>cases hs
  | cons s' r=>
   cases d with
   | nil=>cases hd
   | cons x' d=>
    simp only [List.getElem?_cons_succ]at hd hs
    simp only [List.length_cons,Nat.add_right_cancel_iff]at hl
    rw [Qkp,ih r d x s hl hd hs hlt fun j y z h0 h1 h2=>ha (j+1) y z (by omega) (by simpa using h1) (by simpa using h2)]
    simp
def inB : List Int→List Int→Prop
 | [],[]=>True
 | s::r,x::d=>0≤x∧(x=0∨x<s)∧inB r d
 | _,_=>False
theorem QtK {y x:Int}{k:Nat}:y∈upL x k↔x≤y∧y<x+k:=by
 induction k generalizing x with
 | zero=>
  simp only [upL,List.not_mem_nil,false_iff];omega
 | succ k ih=>simp only [upL,List.mem_cons,ih];omega
theorem QsL {l d:List Int}:d∈binds l↔inB l d:=by
 induction l generalizing d with
 | nil=>cases d<;>simp [binds,inB]
 | cons s r ih=>
  cases d with
  | nil=>simp [binds,inB]
  | cons x d=>
   simp only [binds,List.mem_flatMap,List.mem_cons,QtK,List.mem_map,List.cons.injEq,inB,←ih]
   constructor
   ·rintro ⟨y,h1,e,h2,rfl,rfl⟩
    exact⟨by omega,by omega,h2⟩
   ·rintro ⟨h1,h2,h3⟩
    exact⟨x,by omega,d,h3,rfl,rfl⟩
theorem QtL {l d:List Int}(h:inB l d):d.length=l.length:=by
 induction l generalizing d with
 | nil=>cases d with
  | nil=>rfl
  | cons x d=>exact h.elim
 | cons s r ih=>cases d with
  | nil=>exact h.elim
  | cons x d=>simp [ih h.2.2]
section
variable {α:Type}
def adv (most:Nat)(acc X:List α):List α⊕List α:=if (acc++X).length<most then .inr (acc++X)else .inl ((acc++X).take most)
theorem QlQ {most:Nat}{acc:List α}(h:acc.length<most):adv most acc []=.inr acc:=by
 unfold adv
 rw [List.append_nil,if_pos h]
theorem Qtk {most:Nat}{acc X:List α}(h:acc.length=most):adv most acc X=.inl acc:=by
 unfold adv
 rw [if_neg (by simp;omega)]
 subst h
 rw [List.take_left]
theorem Qtl {most:Nat}{acc X:List α}{x:α}:adv most acc (x::X)=adv most (acc++[x]) X:=by
 unfold adv
 rw [List.append_assoc];rfl
theorem Qry {most:Nat}{acc X Y:List α}:adv most acc (X++Y)=match adv most acc X with
  | .inl a=>.inl a
  | .inr a=>adv most a Y:=by
 unfold adv
 by_cases c:(acc++X).length<most
 ·rw [if_pos c]
  simp only [List.append_assoc]
 ·rw [if_neg c,if_neg (by simp at c ⊢;omega),←List.append_assoc,List.take_append_of_le_length (by omega)]
theorem QsM {most:Nat}{acc X a:List α}(h:adv most acc X=.inr a):a.length<most:=by
 unfold adv at h
 split at h
 ·cases h;assumption
 ·cases h
theorem Qrz {most:Nat}{acc X a:List α}(h:adv most acc X=.inr a):a=acc++X:=by
 unfold adv at h
 split at h
 ·cases h;rfl
 ·cases h
theorem Qtm {most:Nat}{X:List α}(h:0<most):(match adv most [] X with | .inl a=>a | .inr a=>a)=X.take most:=by
 unfold adv
 rw [List.nil_append]
 by_cases c:X.length<most
 ·rw [if_pos c];simp only;rw [List.take_of_length_le (by omega)]
 ·rw [if_neg c]
end
end Go.Vm
