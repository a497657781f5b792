/- A part of the proof; what it holds is told at each theorem. -/
import Derived.Test.YtpijolohkdchcaaGreatDoorXVmZ
set_option linter.unusedVariables false
set_option linter.unusedSimpArgs false
set_option linter.unusedSectionVars false
set_option linter.deprecated false
namespace Go.Vm
open Go Go.RowKit
theorem idxM {α:Type}{l:List α}{f:α→List V}{j:Int}{x:α}(h:idx l j=some x):0≤j∧(l.map f)[j.toNat]? = some (f x):=⟨(idxE h).1,QbJ (idxE h).2⟩
theorem Qdc {α:Type}{l:List α}{j:Int}{x:α}{n:Nat}(h:idx l j=some x)(hn:l.length=n):0≤j∧j<(n:Int):=by subst hn;exact⟨(idxE h).1,QvG h⟩
theorem Qof {a b:Bool}(h:(a&&b)=true):a=true:=(Bool.and_eq_true _ _▸h).1
theorem QkN {a b:Bool}(h:(a&&b)=true):b=true:=(Bool.and_eq_true _ _▸h).2
theorem Qog {a b c:Bool}(h:(a&&b&&c)=true):a=true:=Qof (Qof h)
theorem Qoh {a b c:Bool}(h:(a&&b&&c)=true):b=true:=QkN (Qof h)
theorem Qoi {a b c:Bool}(h:(a&&b&&c)=true):c=true:=QkN h
theorem Qvh {α:Type}{l:List α}{h d:Nat}(hl:h≤l.length):V.own d h=V.own d (l.take h).length:=by rw [List.length_take,Nat.min_eq_left hl]
theorem QeL {α β:Type}{us:List α}{y:List β}{n:Nat}(h:decide (n+y.length≤4294967296)=true)(e:us.length=y.length):decide (n+us.length≤4294967296)=true:=by rw [e];exact h
theorem QgU {α β:Type}{us:List α}{l y:List β}(e:us.length=y.length):l.length+us.length=(l++y).length:=by rw [e];simp
theorem frzL {rs:List (List V)}{n:Nat}(h:rs.length=n):n≤rs.length∧rs.take n=rs:=by subst h;exact⟨Nat.le_refl _,List.take_length⟩
def ltI (a b:Int):Bool:=decide (a<b)
def ltS (a b:ByteArray):Bool:=decide (a.data.toList.map UInt8.toNat<b.data.toList.map UInt8.toNat)
section
variable {P:Program}{C:Ctx}{T:Tab}{Q:Exit→St→Prop}{n:Nat}{ops:Array Oper}{base:St}
theorem QaW.denil {o:Oper}{σ:St}{d:Nat}{v:V}{ob:Option Ob}{ms:List (Option Nat)}(h:QaW P C ops o σ (σ.addF ⟨d,v,ob⟩)):QaW P C ops o σ (σ.addF ⟨d,v.denil ms,ob⟩):=by
 intro a w hR K Q hK
 refine h a w hR K Q fun a' w' ⟨φ,hr⟩=>hK a' w' ⟨φ,?_⟩
 cases ob with
 | none=>exact RR.putDenil (σ:=σ) hr
 | some ob=>exact RR.putDenil (σ:=σ.set d ob) hr
theorem QhD.app {fr:List (Nat×V)}:∀{l m:List (Nat×V)},QhD fr l→QhD fr m→QhD fr (l++m):=by
 intro l
 induction l with
 | nil=>intro m _ h;exact h
 | cons p l ih=>intro m h h';exact⟨h.1,ih h.2 h'⟩
theorem QhE.app {hp:List (Nat×Ob)}:∀{l m:List (Nat×Ob)},QhE hp l→QhE hp m→QhE hp (l++m):=by
 intro l
 induction l with
 | nil=>intro m _ h;exact h
 | cons p l ih=>intro m h h';exact⟨h.1,ih h.2 h'⟩
theorem Qc.walk {f:FuncId}{fn:Func}{c:Code}{args:List V}{hs:List (Nat×Ob)}{post:V→List (Nat×Ob)→Prop}(n:Nat)(hf:P.funcs[f]? = some fn)(hb:fn.body=some c)(hn:fn.ntmps=n)
  (hle:(Nat.ble args.length n&&Nat.ble n 200000)=true) (h:∀C:Ctx,Qem P C n→AK P C (retQ P fn.results.toList post) (.c c) [] ⟨frOf 0 args,hs⟩):Qc P f args hs post:=by
 rw [Bool.and_eq_true]at hle
 exact Qc.enter hf hb hn hle.1 hle.2 fun C h1 _=>h C h1
theorem Qc.walkR {f:FuncId}{fn:Func}{c:Code}{args:List V}{hs:List (Nat×Ob)}{post:V→List (Nat×Ob)→Prop}(n:Nat)(hf:P.funcs[f]? = some fn)(hb:fn.body=some c)(hn:fn.ntmps=n)
  (hle:(Nat.ble args.length n&&Nat.ble n 200000)=true) (h:∀C:Ctx,Qem P C n→C.rnd=none→AK P C (retQ P fn.results.toList post) (.c c) [] ⟨frOf 0 args,hs⟩):Qc P f args hs post:=by
 rw [Bool.and_eq_true]at hle
 exact Qc.enter hf hb hn hle.1 hle.2 h
theorem gives {r:V}{outs hs:List (Nat×Ob)}(h:QhE hs outs):Gives r outs r hs:=⟨rfl,fun _ _ e=>h.look _ _ e⟩
end
theorem QqW {α:Type}{f:α→List V}{l:List α}{n:Nat}(h:n=l.length):n≤(l.map f).length∧(l.map f).take n=l.map f:=by
 subst h;exact⟨by simp,List.take_of_length_le (by simp)⟩
end Go.Vm
