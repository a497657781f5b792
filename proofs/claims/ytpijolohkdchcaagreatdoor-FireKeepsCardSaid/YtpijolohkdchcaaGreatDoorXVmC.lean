/- A part of the proof; what it holds is told at each theorem. -/
import Derived.Test.YtpijolohkdchcaaGreatDoorXVmB
set_option linter.unusedVariables false
set_option linter.unusedSimpArgs false
set_option linter.unusedSectionVars false
set_option linter.deprecated false
namespace Go.Vm
open Go Go.RowKit
section
variable {P:Program}{C:Ctx}{σ:St}{o:Oper}
theorem QS {a b:Nat}(h:Nat.ble (a+1) b=true):a<b:=Nat.le_of_ble_eq_true h
theorem Stp.same {d:Nat}{v:V}(hd:o.dst=some d)(hn:Nat.ble (d+1) C.n=true)
  (h:∀φ a w,RR C φ σ a w→∃x,(execOp a.eval o).run P w=.ok (.value x) w∧Rep φ (Imm C φ w) w x v):Stp P C o σ (σ.put d v):=by
 refine Stp.val fun φ a w hr=>?_
 obtain⟨x,he,hx⟩:=h φ a w hr
 exact⟨x,w,φ,he,by rw [hd];exact hr.put (QS hn) hx⟩
theorem Stp.move {x:Operand}{d:Nat}{v:V}(ho:o.op=.move x)(hd:o.dst=some d)(hn:Nat.ble (d+1) C.n=true)(hx:σ.opd x=some v):Stp P C o σ (σ.put d v):=
 Stp.same hd hn fun φ a w hr=>⟨a.eval x,by simp [execOp,ho],hr.opd hx⟩
theorem Stp.assign {x:Operand}{d:Nat}{v:V}(ho:o.op=.assign x)(hd:o.dst=some d)(hn:Nat.ble (d+1) C.n=true)(hx:σ.opd x=some v):Stp P C o σ (σ.put d v):=
 Stp.same hd hn fun φ a w hr=>⟨a.eval x,by simp [execOp,ho],hr.opd hx⟩
theorem Stp.pickT {c x y:Operand}{d:Nat}{t:Bool}{v:V}(ho:o.op=.pick c x y)(hd:o.dst=some d)(hn:Nat.ble (d+1) C.n=true)(hc:σ.opd c=some (.b t))(ht:t=true)
  (hx:σ.opd x=some v):Stp P C o σ (σ.put d v):=
 Stp.same hd hn fun φ a w hr=>⟨a.eval x,by simp [execOp,ho,(hr.opd hc).b_inv,asBool,ht],hr.opd hx⟩
theorem Stp.pickF {c x y:Operand}{d:Nat}{t:Bool}{v:V}(ho:o.op=.pick c x y)(hd:o.dst=some d)(hn:Nat.ble (d+1) C.n=true)(hc:σ.opd c=some (.b t))(ht:t=false)
  (hx:σ.opd y=some v):Stp P C o σ (σ.put d v):=
 Stp.same hd hn fun φ a w hr=>⟨a.eval y,by simp [execOp,ho,(hr.opd hc).b_inv,asBool,ht],hr.opd hx⟩
def QsT (op:BinOp)(k:IntKind)(a b:Int):Option V:=
 match op with
 | .add=>some (.i k (k.wrap (a+b)))
 | .sub=>some (.i k (k.wrap (a-b)))
 | .mul=>some (.i k (k.wrap (a*b)))
 | .eql=>some (.b (a==b))
 | .neq=>some (.b (a != b))
 | .lss=>some (.b (decide (a<b)))
 | .leq=>some (.b (decide (a≤b)))
 | .gtr=>some (.b (decide (b<a)))
 | .geq=>some (.b (decide (b≤a)))
 | _=>none
theorem Stp.bin {op:BinOp}{x y:Operand}{T U d:Nat}{k:IntKind}{m n:Int}{v:V}(ho:o.op=.binOp op T x y U)(hd:o.dst=some d)(hn:Nat.ble (d+1) C.n=true)
  (hx:σ.opd x=some (.i k m)) (hy:σ.opd y=some (.i k n)) (hv:QsT op k m n=some v):Stp P C o σ (σ.put d v):=by
 refine Stp.same hd hn fun φ a w hr=>?_
 have h1:=(hr.opd hx).i_inv
 have h2:=(hr.opd hy).i_inv
 cases op<;>simp only [QsT,Option.some.injEq,reduceCtorEq]at hv<;>subst hv <;>
  first
  | exact⟨.int k _,by simp [execOp,ho,h1,h2,eqGuard,binOp,Op.intArith],.dat (.i _ _)⟩
  | exact⟨.bool _,by simp [execOp,ho,h1,h2,eqGuard,binOp,Op.intCmp],.dat (.b _)⟩
theorem Stp.divi {op:BinOp}{x y:Operand}{T U d:Nat}{k:IntKind}{m n:Int}{v:V}(ho:o.op=.binOp op T x y U)(hd:o.dst=some d)(hn:Nat.ble (d+1) C.n=true)
  (hx:σ.opd x=some (.i k m)) (hy:σ.opd y=some (.i k n)) (h0:n≠0) (hv:(op=.quo∧v=.i k (k.wrap (m.tdiv n)))∨(op=.rem∧v=.i k (m.tmod n))):Stp P C o σ (σ.put d v):=by
 refine Stp.same hd hn fun φ a w hr=>?_
 have h1:=(hr.opd hx).i_inv
 have h2:=(hr.opd hy).i_inv
 rcases hv with⟨rfl,rfl⟩|⟨rfl,rfl⟩ <;>
  exact⟨.int k _,by simp [execOp,ho,h1,h2,eqGuard,binOp,Op.intDiv,h0],.dat (.i _ _)⟩
theorem Stp.not {x:Operand}{T d:Nat}{t:Bool}(ho:o.op=.unOp .not T x)(hd:o.dst=some d)(hn:Nat.ble (d+1) C.n=true)(hx:σ.opd x=some (.b t)):
  Stp P C o σ (σ.put d (.b (!t))):=
 Stp.same hd hn fun φ a w hr=>⟨.bool (!t),by simp [execOp,ho,(hr.opd hx).b_inv,Op.unary],.dat (.b _)⟩
theorem Stp.neg {x:Operand}{T d:Nat}{k:IntKind}{m:Int}(ho:o.op=.unOp .neg T x)(hd:o.dst=some d)(hn:Nat.ble (d+1) C.n=true)(hx:σ.opd x=some (.i k m)):
  Stp P C o σ (σ.put d (.i k (k.wrap (0-m)))):=
 Stp.same hd hn fun φ a w hr=>⟨.int k _,by simp [execOp,ho,(hr.opd hx).i_inv,Op.unary,Op.intArith],.dat (.i _ _)⟩
def aggB (P:Program)(t:TypeId):Option Bool:=
 match P.underlying t with
 | some (.struct _) | some (.array _ _)=>some true
 | some _=>some false
 | none=>none
def Qja (P:Program)(t:TypeId)(f:Nat):Option Nat:=
 match P.underlying t with
 | some (.struct fs)=>match fs[f]? with
  | some fl=>match P.info? fl.type with
   | some i=>if i.size=0 then none else some fl.offset
   | none=>none
  | none=>none
 | _=>none
def Qax (P:Program)(t:TypeId):Option (TypeId×Nat×Nat):=
 match P.underlying t with
 | some (.slice e)=>match P.info? e with
  | some i=>some (e,i.size,i.bytes)
  | none=>none
 | _=>none
def Qmi (P:Program)(t:TypeId):Option (Nat×Nat):=
 match P.underlying t with
 | some (.array n e)=>match P.info? e with
  | some i=>some (n,i.size)
  | none=>none
 | _=>none
def Qap (P:Program)(t:TypeId):Option (List V):=
 match P.info? t with
 | some i=>match i.zero with
  | some z=>some (z.cells.toList.map Qfm)
  | none=>none
 | none=>none
def Qfy (P:Program)(t:TypeId):Option Nat:=(P.info? t).map (·.size)
theorem Qmj {t:TypeId}{g:Bool}(h:aggB P t=some g)(w:World):(isAgg t).run P w=.ok g w:=by
 unfold aggB at h
 unfold isAgg
 split at h<;>simp_all [underlying]
theorem Qm6 {t:TypeId}{n:Nat}(h:Qfy P t=some n)(w:World):(sizeOf t).run P w=.ok n w:=by
 unfold Qfy at h
 cases hi:P.info? t with
 | none=>simp [hi]at h
 | some i=>simp [hi]at h;simp [sizeOf,typeInfo,hi,h]
def V.cells : V→List V
 | .agg cs=>cs
 | v=>[v]
theorem Rep.oneCell {φ:Nat→Option Blk}{I:Nat→Prop}{w:World}{x:Value}{v:V}(h:Rep φ I w x v)(hv:v.one=true):x.cells=#[x]∧x.oneCell'=true:=by
 cases h with
 | dat h=>cases h with
  | lit=>cases x<;>first | exact⟨rfl,rfl⟩|simp [V.one]at hv
  | _=>first | exact⟨rfl,rfl⟩|simp [V.one]at hv
 | _=>first | exact⟨rfl,rfl⟩|simp [V.one]at hv
theorem Rep.cells {φ:Nat→Option Blk}{I:Nat→Prop}{w:World}{x:Value}{v:V}(h:Rep φ I w x v)(hv:v.one=true∨∃cs,v=.agg cs):
  x.cells.size=v.cells.length∧∀(j:Nat) y u,x.cells[j]? = some y→v.cells[j]? = some u→Rep φ I w y u:=by
 rcases hv with hv | ⟨cs,rfl⟩
 ·have hc:=(h.oneCell hv).1
  have hvc:v.cells=[v]:=by cases v<;>first | rfl | simp [V.one]at hv
  rw [hc,hvc]
  refine⟨rfl,fun j y u hy hu=>?_⟩
  cases j with
  | zero=>simp at hy hu;subst hy;subst hu;exact h
  | succ j=>simp at hy
 ·obtain⟨xs,rfl,hs,hr⟩:=h.agg_inv
  exact⟨hs,hr⟩
end
end Go.Vm
