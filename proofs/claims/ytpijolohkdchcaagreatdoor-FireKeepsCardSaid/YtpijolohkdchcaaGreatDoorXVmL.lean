/- A part of the proof; what it holds is told at each theorem. -/
import Derived.Test.YtpijolohkdchcaaGreatDoorXVmK
set_option linter.unusedVariables false
set_option linter.unusedSimpArgs false
set_option linter.unusedSectionVars false
set_option linter.deprecated false
namespace Go.Vm
open Go Go.RowKit
def w64 (n:Int):Int:=IntKind.i64.wrap n
def idx {α:Type}(l:List α)(j:Int):Option α:=if 0≤j then l[j.toNat]? else none
def chk (c:Bool):Option Unit:=bif c then some ()else none
theorem bifE {α:Type}{c:Bool}{x y:Option α}{r:α}(h:(bif c then x else y)=some r):(c=true∧x=some r)∨(c=false∧y=some r):=by
 cases c
 ·exact .inr ⟨rfl,h⟩
 ·exact .inl ⟨rfl,h⟩
theorem Qb {α β:Type}{o:Option α}{f:α→Option β}{r:β}(h:o.bind f=some r):∃x,o=some x∧f x=some r:=Option.bind_eq_some_iff.1 h
theorem chkE {c:Bool}{u:Unit}(h:chk c=some u):c=true:=by
 cases c
 ·cases h
 ·rfl
theorem idxE {α:Type}{l:List α}{j:Int}{x:α}(h:idx l j=some x):0≤j∧l[j.toNat]? = some x:=by
 unfold idx at h
 split at h
 ·exact⟨by assumption,h⟩
 ·cases h
theorem QvG {α:Type}{l:List α}{j:Int}{x:α}(h:idx l j=some x):j<l.length:=by
 obtain⟨h0,h1⟩:=idxE h
 have:=(List.getElem?_eq_some_iff.1 h1).1
 omega
theorem QbJ {α β:Type}{l:List α}{f:α→β}{i:Nat}{x:α}(h:l[i]? = some x):(l.map f)[i]? = some (f x):=by rw [List.getElem?_map,h];rfl
theorem QjB {α β:Type}{l:List α}{f:α→β}{i:Nat}{x:α}{r:β}(h:r=f x):(l.map f).set i r=(l.set i x).map f:=by rw [h,List.map_set]
theorem Qdm {α β:Type}{l m:List α}{f:α→β}:l.map f++m.map f=(l++m).map f:=by simp
theorem Qtz {α β:Type}{f:α→β}{n:Nat}{x:α}{r:β}(h:r=f x):List.replicate n r=(List.replicate n x).map f:=by rw [h];simp
theorem Qh {α β:Type}{l:List α}{f:α→β}:(l.map f).length=l.length:=List.length_map f
theorem QK (c:Bool):c=true∨c=false:=by cases c<;>simp
theorem andT {c x y:Bool}(h:c=true)(e:x=y):x=(c&&y):=by rw [h,e];rfl
theorem andF {c x y:Bool}(h:c=false)(e:x=false):x=(c&&y):=by rw [h,e];rfl
theorem orT {c x y:Bool}(h:c=true)(e:x=true):x=(c||y):=by rw [h,e];rfl
theorem orF {c x y:Bool}(h:c=false)(e:x=y):x=(c||y):=by rw [h,e];rfl
theorem bifT {c x y z:Bool}(h:c=true)(e:x=y):x=(bif c then y else z):=by rw [h,e];rfl
theorem bifF {c x y z:Bool}(h:c=false)(e:x=z):x=(bif c then y else z):=by rw [h,e];rfl
section
variable {P:Program}{C:Ctx}{ops:Array Oper}{σ:St}{Q:Exit→St→Prop}{c:Code}
theorem AWp.to (fr:List (Nat×V))(hp:List (Nat×Ob))(hf:QhD σ.fr fr)(hh:QhE σ.hp hp)(hk:St.closed ⟨fr,hp⟩=true)(h:AWp P C c ⟨fr,hp⟩ Q):AWp P C c σ Q:=
 AWp.weaken (fun _ _ hR=>hR.to hf hh hk) h
theorem AL.to {rest:List Oper}(fr:List (Nat×V))(hp:List (Nat×Ob))(hf:QhD σ.fr fr)(hh:QhE σ.hp hp)(hk:St.closed ⟨fr,hp⟩=true)(h:AL P C ops rest ⟨fr,hp⟩ Q):AL P C ops rest σ Q:=
 AL.weaken (fun _ _ hR=>hR.to hf hh hk) h
theorem AL.adopt {rest:List Oper}{t b z:Nat}(hlt:b<200000)(ht:look σ.fr t=some (.lit (.slice none 0 0)))(hb:look σ.hp b=none)(h:AL P C ops rest ((σ.set b (.arr z [])).put t (.own b 0)) Q):AL P C ops rest σ Q:=
 AL.weaken (fun _ _ hR=>hR.adopt hlt ht hb) h
theorem AWp.adopt {t b z:Nat}(hlt:b<200000)(ht:look σ.fr t=some (.lit (.slice none 0 0)))(hb:look σ.hp b=none)(h:AWp P C c ((σ.set b (.arr z [])).put t (.own b 0)) Q):AWp P C c σ Q:=
 AWp.weaken (fun _ _ hR=>hR.adopt hlt ht hb) h
theorem AL.freeze {rest:List Oper}{t b n z:Nat}{rs us:List (List V)}(hp:Nat.ble 100000 b=false)(ht:look σ.fr t=some (.own b n))(hb:look σ.hp b=some (.arr z rs))(hle:n≤rs.length)(hu:rs.take n=us)
  (h:AL P C ops rest ((σ.kill b).put t (.sl z us)) Q):AL P C ops rest σ Q:=AL.weaken (fun _ _ hR=>hR.freeze hp ht hb hle hu) h
theorem AWp.freeze {t b n z:Nat}{rs us:List (List V)}(hp:Nat.ble 100000 b=false)(ht:look σ.fr t=some (.own b n))(hb:look σ.hp b=some (.arr z rs))(hle:n≤rs.length)(hu:rs.take n=us)
  (h:AWp P C c ((σ.kill b).put t (.sl z us)) Q):AWp P C c σ Q:=AWp.weaken (fun _ _ hR=>hR.freeze hp ht hb hle hu) h
end
section
variable {P:Program}{C:Ctx}{σ:St}{o:Oper}
theorem Stp.extract {d i:Nat}{x:Operand}{vs:List V}{v:V}(ho:o.op=.extract x i)(hd:o.dst=some d)(hn:Nat.ble (d+1) C.n=true)(hx:σ.opd x=some (.tup vs))(hv:vs[i]? = some v):Stp P C o σ (σ.put d v):=by
 refine Stp.same hd hn fun φ a w hr=>?_
 obtain⟨xs,he,hs,hc⟩:=(hr.opd hx).tup_inv
 have hi:i<xs.size:=by rw [hs];exact(List.getElem?_eq_some_iff.1 hv).1
 exact⟨xs[i],by simp [execOp,ho,he,Instr.extract,hi],hc i _ v (Array.getElem?_eq_getElem hi) hv⟩
theorem Stp.appS {T U d e e' z z' by_ by' b n m:Nat}{x y:Operand}{rs us rs':List (List V)}{zs:List V}(ho:o.op=.call { callee:=.builtin .append,args:=#[x,y],argTypes:=#[T,U] })
  (hd:o.dst=some d) (hn:Nat.ble (d+1) C.n=true) (hx:σ.opd x=some (.own b n)) (hb:look σ.hp b=some (.arr z rs)) (hb1:Nat.ble 200000 b=false) (hnl:rs.length=n)
  (hT:Qax P T=some (e,z,by_)) (hU:Qax P U=some (e',z',by')) (hz:Qap P e=some zs) (hzl:zs.length=z) (hz0:z≠0) (hby:Nat.ble by_ 32768=true) (hsm:decide (n+us.length≤4294967296)=true)
  (hy:σ.opd y=some (.sl z us)) (he:rs++us=rs') (hm:n+us.length=m):Stp P C o σ (σ.app b z d m rs'):=
 Stp.append ho hd hn hx hb hb1 hnl hT hU hz hzl hz0 (Nat.le_of_ble_eq_true hby) (of_decide_eq_true hsm) (fun φ a w hr=>(hr.opd hy).source_sl) he hm
theorem Stp.appO {T U d e e' z z' by_ by' b b' n n' m:Nat}{x y:Operand}{rs us rs':List (List V)}{zs:List V}(ho:o.op=.call { callee:=.builtin .append,args:=#[x,y],argTypes:=#[T,U] })
  (hd:o.dst=some d) (hn:Nat.ble (d+1) C.n=true) (hx:σ.opd x=some (.own b n)) (hb:look σ.hp b=some (.arr z rs)) (hb1:Nat.ble 200000 b=false) (hnl:rs.length=n)
  (hT:Qax P T=some (e,z,by_)) (hU:Qax P U=some (e',z',by')) (hz:Qap P e=some zs) (hzl:zs.length=z) (hz0:z≠0) (hby:Nat.ble by_ 32768=true) (hsm:decide (n+n'≤4294967296)=true)
  (hy:σ.opd y=some (.own b' n')) (hb':look σ.hp b'=some (.arr z us)) (hle:us.length=n') (he:rs++us=rs') (hm:n+n'=m):Stp P C o σ (σ.app b z d m rs'):=by
 subst hle
 refine Stp.append ho hd hn hx hb hb1 hnl hT hU hz hzl hz0 (Nat.le_of_ble_eq_true hby) (of_decide_eq_true hsm) (fun φ a w hr=>?_) he hm
 have:=(hr.opd hy).source_own hr hb' (Nat.le_refl _)
 rwa [List.take_length]at this
theorem Stp.appN {T U d e e' z z' by_ by' b n:Nat}{x y:Operand}{rs:List (List V)}{zs:List V}(ho:o.op=.call { callee:=.builtin .append,args:=#[x,y],argTypes:=#[T,U] })
  (hd:o.dst=some d) (hn:Nat.ble (d+1) C.n=true) (hx:σ.opd x=some (.own b n)) (hb:look σ.hp b=some (.arr z rs)) (hb1:Nat.ble 200000 b=false) (hnl:rs.length=n)
  (hT:Qax P T=some (e,z,by_)) (hU:Qax P U=some (e',z',by')) (hz:Qap P e=some zs) (hzl:zs.length=z) (hz0:z≠0) (hby:Nat.ble by_ 32768=true) (hsm:decide (n≤4294967296)=true)
  (hy:σ.opd y=some (.lit (.slice none 0 0))):Stp P C o σ (σ.app b z d n rs):=by
 refine Stp.append (us:=[]) ho hd hn hx hb hb1 hnl hT hU hz hzl hz0 (Nat.le_of_ble_eq_true hby) (by simpa using of_decide_eq_true hsm) (fun φ a w hr=>?_) (by simp) (by simp)
 exact .inl ⟨none,0,(hr.opd hy).lit_inv,rfl⟩
end
end Go.Vm
