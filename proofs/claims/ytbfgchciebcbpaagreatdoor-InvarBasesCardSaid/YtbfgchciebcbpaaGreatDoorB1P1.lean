/- A part of the proof; what it holds is told at each theorem. -/
import Derived.Test.YtbfgchciebcbpaaGreatDoorB1XPlA
import Derived.Test.YtbfgchciebcbpaaGreatDoorB1V3
import Derived.Test.YtbfgchciebcbpaaGreatDoorB1T2
import Derived.KernelRfl
set_option linter.unusedVariables false
set_option linter.unusedSimpArgs false
set_option linter.unusedSectionVars false
set_option linter.deprecated false
namespace Go.Vm
open Go Go.RowKit
def Qj {α:Type}(o:Option α)(Q:α→Prop):Prop:=∃r,o=some r∧Q r
section
variable {α β σ ρ:Type}
theorem Qj.ok {a:α}{Q:α→Prop}(h:Q a):Qj (some a) Q:=⟨a,rfl,h⟩
theorem Qj.okT {a:α}:Qj (some a) fun _=>True:=⟨a,rfl,trivial⟩
theorem Qj.bind {o:Option α}{f:α→Option β}{P:α→Prop}{Q:β→Prop}(h:Qj o P)(k:∀x,P x→Qj (f x) Q):Qj (o.bind f) Q:=by
 obtain⟨x,rfl,hx⟩:=h
 exact k x hx
theorem Qj.bif {c:Bool}{a b:Option α}{Q:α→Prop}(h1:c=true→Qj a Q)(h2:c=false→Qj b Q):Qj (bif c then a else b) Q:=by
 cases c with
 | true=>exact h1 rfl
 | false=>exact h2 rfl
theorem Qj.chk {c:Bool}(h:c=true):Qj (chk c) fun _=>True:=⟨(),QdQ h,trivial⟩
theorem Qj.idx {l:List α}{j:Int}(h0:0≤j)(h1:j<l.length):Qj (idx l j) fun x=>x∈l:=by
 rw [Qn6 h0 h1]
 exact⟨_,rfl,Qbb _⟩
theorem Qj.get {l:List α}{j:Nat}(h1:j<l.length):Qj (l[j]?) fun x=>x∈l:=by
 rw [QD h1]
 exact⟨_,rfl,Qbb _⟩
theorem Qj.sidx {s:ByteArray}{j:Int}(h0:0≤j)(h1:j<s.size):Qj (sidx s j) fun _=>True:=by
 unfold Vm.sidx
 rw [if_pos h0]
 have:j.toNat<s.size:=by omega
 rw [getElem?_pos s j.toNat this]
 exact⟨_,rfl,trivial⟩
theorem Qj.mono {o:Option α}{P Q:α→Prop}(h:Qj o P)(k:∀x,P x→Q x):Qj o Q:=let ⟨r,h1,h2⟩:=h;⟨r,h1,k r h2⟩
theorem Qj.tot {o:Option α}{P:α→Prop}(h:Qj o P):∃r,o=some r:=let ⟨r,h1,_⟩:=h;⟨r,h1⟩
theorem Qj.self {o:Option α}{P:α→Prop}(h:Qj o P):Qj o fun x=>o=some x∧P x:=let ⟨r,h1,h2⟩:=h;⟨r,h1,h1,h2⟩
theorem Qj.up {body:σ→Option (σ⊕ρ)}(n:Nat)(ix:σ→Int)(J:σ→Prop){Q:ρ→Prop}{s0:σ}(h0:ix s0=0)(hJ:J s0)
  (step:∀(i:Nat) s,ix s=(i:Int)→i≤n→J s→Qj (body s) fun o=>(∀s',o=.inl s'→i<n∧ix s'=((i+1:Nat):Int)∧J s')∧∀r,o=.inr r→Q r):Qj (Qq body s0) Q:=by
 have key:∀k i s,i+k=n→ix s=(i:Int)→J s→∃r,Qq body s=some r∧Q r:=by
  intro k
  induction k with
  | zero=>
   intro i s hk hi hj
   obtain⟨o,ho,h1,h2⟩:=step i s hi (by omega) hj
   rw [QbY,ho]
   cases o with
   | inl s'=>have:=(h1 s' rfl).1;omega
   | inr r=>exact⟨r,rfl,h2 r rfl⟩
  | succ k ih=>
   intro i s hk hi hj
   obtain⟨o,ho,h1,h2⟩:=step i s hi (by omega) hj
   rw [QbY,ho]
   cases o with
   | inl s'=>
    obtain⟨_,h3,h4⟩:=h1 s' rfl
    exact ih (i+1) s' (by omega) h3 h4
   | inr r=>exact⟨r,rfl,h2 r rfl⟩
 exact key n 0 s0 (by omega) h0 hJ
theorem QN {s:σ}{n i:Nat}{ix:σ→Int}{J:σ→Prop}{Q:ρ→Prop}(h:i<n∧ix s=((i+1:Nat):Int)∧J s):
  (∀s',(Sum.inl s:σ⊕ρ)=.inl s'→i<n∧ix s'=((i+1:Nat):Int)∧J s')∧∀r,(Sum.inl s:σ⊕ρ)=.inr r→Q r:=
 ⟨fun s' e=>(by cases e;exact h),fun r e=>(by cases e)⟩
theorem Qv {r:ρ}{n i:Nat}{ix:σ→Int}{J:σ→Prop}{Q:ρ→Prop}(h:Q r):
  (∀s',(Sum.inr r:σ⊕ρ)=.inl s'→i<n∧ix s'=((i+1:Nat):Int)∧J s')∧∀r',(Sum.inr r:σ⊕ρ)=.inr r'→Q r':=
 ⟨fun s' e=>(by cases e),fun r' e=>(by cases e;exact h)⟩
end
def QT {α:Type}(ok:α→Prop)(l:List α):Prop:=l.length≤maxLen∧∀x∈l,ok x
theorem QT.drop {α:Type}{ok:α→Prop}{l:List α}(h:QT ok l)(k:Nat):QT ok (l.drop k):=⟨by have:=h.1;rw [Qj6];omega,fun x hx=>h.2 x (Qor hx)⟩
theorem QT.take {α:Type}{ok:α→Prop}{l:List α}(h:QT ok l)(k:Nat):QT ok (l.take k):=⟨by have:=h.1;rw [QdK];omega,fun x hx=>h.2 x (Qgf hx)⟩
theorem QT.nil {α:Type}{ok:α→Prop}:QT ok ([]:List α):=⟨by simp,fun x h=>by cases h⟩
theorem QT.app {α:Type}{ok:α→Prop}{l m:List α}(h:QT ok l)(hm:QT ok m)(hs:l.length+m.length≤maxLen):QT ok (l++m):=⟨by simpa using hs,fun x hx=>by rcases Qdo.1 hx with h1 | h1;exact h.2 x h1;exact hm.2 x h1⟩
def Qfs (s:ByteArray):Prop:=s.size≤maxLen
theorem QxV {s:ByteArray}(h:QgT s (⟨#[]⟩:ByteArray)=false):0<s.size:=by
 apply Qnm
 intro h0
 have:s=⟨#[]⟩:=by
  obtain⟨a⟩:=s
  have:a=#[]:=Array.eq_empty_of_size_eq_zero h0
  rw [this]
 subst this
 simp [QgT]at h
theorem QkG {a b:Int}:0≤min2 a b↔0≤a∧0≤b:=by unfold min2;split<;>omega
theorem QkH {a b n:Int}:max2 a b<n↔a<n∧b<n:=by unfold max2;split<;>omega
theorem Qjz {a b n:Int}:max2 a b≤n↔a≤n∧b≤n:=by unfold max2;split<;>omega
abbrev T0:=@Qj.bind
abbrev T1:=@Qj.bif
abbrev T2:=@Qj.ok
abbrev T3:=@Qj.okT
abbrev T4:=@Qj.idx
abbrev T5:=@Qj.chk
abbrev T6:=@Qj.mono
end Go.Vm
namespace Go.Vm
open Go Go.RowKit
def Asc (l:List (Int×Int)):Prop:=l.Pairwise fun p q=>p.1<q.1
def QAn (l:List (Int×Int)):Prop:=l.Pairwise fun p q=>p.1≠q.1
theorem Asc.nd {l:List (Int×Int)}(h:Asc l):QAn l:=h.imp fun h=>by omega
section
variable {ρ:Type}{g:Int→Int→Int}{stop:Int→Bool}{q:Option ρ}{body:List (Int×Int)→Int×Int→Option (List (Int×Int)⊕ρ)}
end
def Rt (l:List (Int×Int)):Prop:=Asc l∧∀p∈l,0≤p.1∧1≤p.2∧p.2≤1048576
theorem Rt.nil : Rt []:=⟨List.Pairwise.nil,fun p h=>by cases h⟩
end Go.Vm
namespace Go.Vm
open Go Go.RowKit
def upL : Int→Nat→List Int
 | _,0=>[]
 | x,k+1=>x::upL (x+1) k
def binds : List Int→List (List Int)
 | []=>[[]]
 | s::r=>(0::upL 1 (s-1).toNat).flatMap fun x=>(binds r).map (x::·)
section
variable {α:Type}
end
end Go.Vm
noncomputable section
namespace Go.Proofs
open Go Go.RowKit Go.Vm
inductive Qde : Ql→Prop where
 | mk (e:Ql):e.Kids.length≤maxLen→(∀k∈e.Kids,Qde k)→Qde e
theorem Qd4 {e:Ql}(h:Qde e):QT Qde e.Kids:=by
 cases h with
 | mk _ h1 h2=>exact⟨h1,h2⟩
theorem QtS {e k:Ql}(h:k∈e.Kids):SizeOf.sizeOf k<SizeOf.sizeOf e:=by
 obtain⟨a,b,l⟩:=e
 have:=List.sizeOf_lt_of_mem h
 simp only [Ql.mk.sizeOf_spec]at *
 omega
theorem Ql.pos (e:Ql):0<SizeOf.sizeOf e:=by
 obtain⟨a,b,l⟩:=e
 simp only [Ql.mk.sizeOf_spec];omega
inductive POk (v:Int):Ql→Prop where
 | mk (e:Ql):(e.Kind=1∨e.Kind=2∨e.Kind=3∨e.Kind=4∨e.Kind=5∨e.Kind=6)→(e.Kind=2→0≤e.Num∧e.Num<v)→(e.Kind=3∨e.Kind=4→e.Kids.length=1)→(e.Kind=5→e.Kids.length=2)→(e.Kind=6→e.Kids.length=3)→(∀k∈e.Kids,POk v k)→POk v e
def Qdj (x:QP):Prop:=Qfs x.Name∧True∧True∧True∧(QT Qfs) x.Names∧True∧True
def Qcr (x:QL):Prop:=Qfs x.Name∧True∧(QT (fun _=>True)) x.First
def QdB (x:Qaz):Prop:=Qfs x.Name∧True
def Qj4 (x:Q0):Prop:=True∧Qde x.Expr
def Qay (x:Qw):Prop:=Qfs x.Name∧(QT QdB) x.Vars∧Qde x.Guard∧True∧True∧(QT Qj4) x.Ins∧(QT Qj4) x.Outs∧(QT (fun _=>True)) x.Cancel∧True∧True
def QK (x:Qm):Prop:=(QT Qdj) x.Colours∧(QT Qcr) x.Places∧(QT Qay) x.Tasks∧True∧True
def Qve (x:QdM):Prop:=(QT Qdj) x.all∧(QT (fun _=>True)) x.sizes∧True
theorem QtT (v1:Qm)(h_v1:QK v1):Qj (Qkb v1) fun r=>True:=by
 unfold Qkb
 exact T3
theorem Qb6 (l1:(List QL))(k2:Int)(h_l1:(QT Qcr) l1):Qj (QaC l1 k2) fun r=>r=true→0≤k2∧k2<l1.length:=by
 unfold QaC
 exact T2 (by first | (intro hr;first | (cases hr;done) | omega | ((try simp only [Qy,QcA,QfF,Qex,QkK,Q2,Qb2,beq_iff_eq,bne_iff_ne,ne_eq,QmZ,Qop,Qfg,QlO,QkN,Qj6,QdK,Qga,QkG,QkH,Qjz]at *);omega)) | ((try simp only [Qy,QcA,QfF,Qex,QkK,Q2,Qb2,beq_iff_eq,bne_iff_ne,ne_eq,QmZ,Qop,Qfg,QlO,QkN,Qj6,QdK,Qga,QkG,QkH,Qjz]at *);omega) | simp_all)
theorem QtU (v1:Qm)(h_v1:QK v1):Qj (Qkc v1) fun r=>True:=by
 unfold Qkc
 refine T0 (P:=fun _=>True) ?_ (fun x_1 hv2=>?_)
 ·unfold QnO
  refine T0 (Qb6 v1.Places v1.From (h_v1.2.1)) (fun x_3 hv4=>?_)
  refine T1 (fun hc5=>?_) (fun hc5=>?_)
  ·refine T0 (Qb6 v1.Places v1.To (h_v1.2.1)) (fun x_6 hv7=>?_)
   exact T3
  exact T3
 unfold Qg0
 exact T3
theorem QtV (v1:Qm)(h_v1:QK v1):Qj (Qkd v1) fun r=>True:=by
 unfold Qkd
 exact T3
theorem QtW (v1:Qm)(v2:Int)(v3:Int)(v4:Int)(h_v1:QK v1):Qj (Qke v1 v2 v3 v4) fun r=>True:=by
 unfold Qke
 refine T0 (QtT v1 (h_v1)) (fun x_1 hv2=>?_)
 refine T1 (fun hc3=>?_) (fun hc3=>?_)
 ·exact T3
 refine T0 (QtU v1 (h_v1)) (fun x_4 hv5=>?_)
 refine T1 (fun hc6=>?_) (fun hc6=>?_)
 ·exact T3
 refine T0 (QtV v1 (h_v1)) (fun x_7 hv8=>?_)
 refine T1 (fun hc9=>?_) (fun hc9=>?_)
 ·exact T3
 exact T3
theorem QtX (lo1:Int)(hi2:Int)  : Qj (Qkf lo1 hi2) fun r=>True:=by
 unfold Qkf
 refine T1 (fun hc1=>?_) (fun hc1=>?_)
 ·exact T3
 exact T3
theorem QmV (c1:Int)  : Qj (Qeb c1) fun r=>True:=by
 unfold Qeb
 exact T3
theorem Qlj (s1:ByteArray)(h_s1:Qfs s1):Qj (QfE s1) fun r=>True:=by
 unfold QfE
 refine T0 (P:=fun _=>True) ?_ (fun x_1 hv2=>?_)
 ·unfold QnP
  refine T1 (fun hc3=>?_) (fun hc3=>?_)
  ·exact T3
  have hshc3:=QxV hc3
  refine T1 (fun hc4=>?_) (fun hc4=>?_)
  ·exact T3
  refine T0 (Qj.sidx (by omega) (by omega)) (fun c_5 hv6=>?_)
  refine T0 (QmV c_5 ) (fun x_7 hv8=>?_)
  exact T3
 unfold Qg5
 refine T1 (fun hc9=>?_) (fun hc9=>?_)
 ·exact T3
 refine T0 (Qj.up (s1.size) (fun st=>st) (fun _=>True) (Q:=fun q=>True) rfl trivial (fun i11 st hi12 hn13 hj14=>?_)) (fun q15 hq16=>?_)
 ·obtain⟨x_10,hst⟩:∃y,y=st:=⟨_,rfl⟩
  subst hst
  replace hi12:x_10=(i11:Int):=hi12
  show Qj (Qg2 s1 x_10) _
  unfold Qg2
  refine T1 (fun hc17=>?_) (fun hc17=>?_)
  ·refine T0 (Qj.sidx (by omega) (by simp_all)) (fun c_18 hv19=>?_)
   refine T0 (P:=fun _=>True) ?_ (fun x_20 hv21=>?_)
   ·unfold QnQ
    refine T0 (QmV c_18 ) (fun x_22 hv23=>?_)
    refine T1 (fun hc24=>?_) (fun hc24=>?_)
    ·refine T1 (fun hc25=>?_) (fun hc25=>?_)
     ·exact T3
     refine T1 (fun hc26=>?_) (fun hc26=>?_)
     ·exact T3
     exact T3
    exact T3
   unfold Qg1
   refine T1 (fun hc27=>?_) (fun hc27=>?_)
   ·exact T2 (Qv trivial)
   exact T2 (QN ⟨(by simp_all),by subst hi12;exact Qx (by simp_all) h_s1,trivial⟩)
  exact T2 (Qv trivial)
 rcases q15 with q15 | q15
 ·show Qj (Qg3) _
  unfold Qg3
  exact T3
 show Qj (Qg4) _
 unfold Qg4
 exact T3
theorem Qs9 (l1:(List ByteArray))(h_l1:(QT Qfs) l1):Qj (Qjk l1) fun r=>True:=by
 unfold Qjk
 refine T0 (Qj.up (l1.length) (fun st=>st.1) (fun _=>True) (Q:=fun q=>True) rfl trivial (fun i3 st hi4 hn5 hj6=>?_)) (fun q7 hq8=>?_)
 ·obtain⟨x_1,m_2⟩:=st
  replace hi4:x_1=(i3:Int):=hi4
  show Qj (Qgj l1 x_1 m_2) _
  unfold Qgj
  refine T1 (fun hc9=>?_) (fun hc9=>?_)
  ·refine T0 (T4 (by omega) (by simp_all)) (fun e_10 hv11=>?_)
   refine T0 (P:=fun _=>True) ?_ (fun x_12 hv13=>?_)
   ·unfold QmK
    refine T0 (Qlj e_10 (((h_l1).2 e_10 hv11))) (fun x_14 hv15=>?_)
    refine T1 (fun hc16=>?_) (fun hc16=>?_)
    ·exact T3
    exact T3
   unfold Qgi
   refine T1 (fun hc17=>?_) (fun hc17=>?_)
   ·exact T2 (Qv trivial)
   exact T2 (QN ⟨(by simp_all),by subst hi4;exact Qx (by simp_all) (h_l1).1,trivial⟩)
  exact T2 (Qv trivial)
 rcases q7 with q7 | q7
 ·show Qj (Qgk) _
  unfold Qgk
  exact T3
 show Qj (Qgl) _
 unfold Qgl
 exact T3
theorem QtY (c1:QP)(ahead2:(List Int))(h_c1:Qdj c1)(h_ahead2:(QT (fun _=>True)) ahead2):Qj (Qkg c1 ahead2) fun r=>True:=by
 unfold Qkg
 refine T1 (fun hc1=>?_) (fun hc1=>?_)
 ·refine T0 (QtX c1.Lo c1.Hi ) (fun x_2 hv3=>?_)
  exact T3
 refine T1 (fun hc4=>?_) (fun hc4=>?_)
 ·refine T0 (Qs9 c1.Names (h_c1.2.2.2.2.1)) (fun x_5 hv6=>?_)
  refine T1 (fun hc7=>?_) (fun hc7=>?_)
  ·exact T3
  unfold QcJ
  exact T3
 refine T1 (fun hc8=>?_) (fun hc8=>?_)
 ·refine T1 (fun hc9=>?_) (fun hc9=>?_)
  ·refine T0 (T4 (by(try simp only [Qy,QcA,QfF,Qex,QkK,Q2,Qb2,beq_iff_eq,bne_iff_ne,ne_eq,QmZ,Qop,Qfg,QlO,QkN,Qj6,QdK,Qga,QkG,QkH,Qjz]at *);omega) (by(try simp only [Qy,QcA,QfF,Qex,QkK,Q2,Qb2,beq_iff_eq,bne_iff_ne,ne_eq,QmZ,Qop,Qfg,QlO,QkN,Qj6,QdK,Qga,QkG,QkH,Qjz]at *);omega)) (fun e_10 hv11=>?_)
   refine T0 (T4 (by(try simp only [Qy,QcA,QfF,Qex,QkK,Q2,Qb2,beq_iff_eq,bne_iff_ne,ne_eq,QmZ,Qop,Qfg,QlO,QkN,Qj6,QdK,Qga,QkG,QkH,Qjz]at *);omega) (by(try simp only [Qy,QcA,QfF,Qex,QkK,Q2,Qb2,beq_iff_eq,bne_iff_ne,ne_eq,QmZ,Qop,Qfg,QlO,QkN,Qj6,QdK,Qga,QkG,QkH,Qjz]at *);omega)) (fun e_12 hv13=>?_)
   exact T3
  unfold QcJ
  exact T3
 unfold QcJ
 exact T3
theorem Qn7 (l1:(List QP))(h_l1:(QT Qdj) l1):Qj (QgD l1) fun r=>((QT (fun _=>True)) r.1∧True)∧(r.2=true→r.1.length=l1.length∧∀x∈r.1,1≤x∧x≤1024):=by
 unfold QgD
 refine T1 (fun hc=>T2 ⟨⟨QT.nil,trivial⟩,fun h=>by cases h⟩) (fun hc=>?_)
 have hl:l1.length≤32:=by simp only [Qb2]at hc;omega
 refine T0 (Qj.up l1.length (fun st=>st.1) (fun st=>(st.2.2.length:Int)=st.1∧∀x∈st.2.2,1≤x∧x≤1024) (Q:=fun q=>∀l,q=.inr l→l.length=l1.length∧∀x∈l,1≤x∧x≤1024) rfl ⟨rfl,fun x h=>(by cases h)⟩ (fun i st hi hn hj=>?_)) (fun q hq=>?_)
 ·obtain⟨x,m,l⟩:=st
  replace hi:x=(i:Int):=hi
  replace hj:(l.length:Int)=x∧∀x∈l,1≤x∧x≤1024:=hj
  obtain⟨hj,hj2⟩:=hj
  show Qj (Qgn l1 x m l) _
  unfold Qgn
  refine T1 (fun hc2=>?_) (fun hc2=>?_)
  ·simp only [Q2]at hc2
   refine T0 (T4 (by omega) (by omega)) fun e he=>?_
   refine T0 (QtY e l (h_l1.2 e he) ⟨by unfold maxLen;omega,fun _ _=>trivial⟩) fun y _=>?_
   refine T0 (P:=fun z=>z=false→1≤y∧y≤1024) ?_ fun z hz=>?_
   ·unfold QmL
    refine T0 (Qlj e.Name (h_l1.2 e he).1) fun z _=>?_
    refine T1 (fun _=>T2 (fun h=>by cases h)) fun _=>T1 (fun _=>T2 (fun h=>by cases h)) fun _=>T1 (fun _=>T2 (fun h=>by cases h)) fun h1=>T2 fun h2=>?_
    simp only [Qb2]at h1 h2
    omega
   unfold Qgm
   refine T1 (fun _=>T2 (Qv fun l h=>by cases h)) fun hz0=>?_
   refine T0 (T5 (by simp;omega)) fun _ _=>?_
   exact T2 (QN ⟨by omega,by subst hi;exact Qx (by omega) (by unfold maxLen;omega:l1.length≤maxLen),by simp only [Qfg,QlO];subst hi;rw [Qx (show i<l1.length by omega) (by unfold maxLen;omega)];omega,fun u hu=>by
    rcases Qdo.1 hu with hu | hu
    ·exact hj2 u hu
    simp at hu;subst hu;exact hz hz0⟩)
  simp only [Qb2]at hc2
  exact T2 (Qv fun l' h=>by cases h;exact⟨by omega,hj2⟩)
 rcases q with q | q
 ·exact T2 ⟨⟨QT.nil,trivial⟩,fun h=>by cases h⟩
 have:=hq q rfl
 exact T2 ⟨⟨⟨by show q.length≤maxLen;unfold maxLen;omega,fun _ _=>trivial⟩,trivial⟩,fun _=>this⟩
theorem Qta (l1:(List QP))(h_l1:(QT Qdj) l1):Qj (Qjl l1) fun r=>True:=by
 unfold Qjl
 refine T0 (Qn7 l1 (h_l1)) (fun x_1 hv2=>?_)
 exact T3
theorem QpA (v1:Qm)(v2:Int)(h_v1:QK v1)(hp0:0≤v2)(hp1:v2<v1.Colours.length):Qj (Qfj v1 v2) fun r=>True:=by
 have hl:=h_v1.1.1
 unfold maxLen at hl
 unfold Qfj
 rw [Qac (show -9223372036854775808≤v2+1∧v2+1≤9223372036854775807 by omega)]
 refine T0 (T5 (by simp only [Qy,Q2];omega)) fun _ _=>?_
 exact T0 (Qta _ ((h_v1.1.drop _).take _)) fun x _=>T3
def QtZ : List ByteArray:=(Qhu).getD []
set_option maxRecDepth 100000 in
theorem QyL : Qhu=some QtZ:=by kernel_rfl
set_option maxRecDepth 100000 in
theorem Qwz : (decide (QtZ.length≤1000)&&QtZ.all fun s=>decide (s.size≤1000))=true:=by kernel_rfl
theorem Qt0 : Qj (Qhu) fun r=>QT Qfs r:=by
 have h:=Qwz
 rw [Qy,decide_eq_true_iff,Q4]at h
 refine⟨QtZ,QyL,by unfold maxLen;omega,fun x hx=>?_⟩
 have:=h.2 x hx
 rw [decide_eq_true_iff]at this
 unfold Qfs maxLen;omega
theorem Qlk (s1:(List ByteArray))(v2:ByteArray)(h_s1:(QT Qfs) s1)(h_v2:Qfs v2):Qj (Qcn s1 v2) fun r=>True:=by
 unfold Qcn
 refine T0 (Qj.up (s1.length) (fun st=>st) (fun _=>True) (Q:=fun q=>True) rfl trivial (fun i2 st hi3 hn4 hj5=>?_)) (fun q6 hq7=>?_)
 ·obtain⟨x_1,hst⟩:∃y,y=st:=⟨_,rfl⟩
  subst hst
  replace hi3:x_1=(i2:Int):=hi3
  show Qj (QbN s1 v2 x_1) _
  unfold QbN
  refine T1 (fun hc8=>?_) (fun hc8=>?_)
  ·refine T0 (T4 (by omega) (by simp_all)) (fun e_9 hv10=>?_)
   refine T1 (fun hc11=>?_) (fun hc11=>?_)
   ·exact T2 (Qv trivial)
   exact T2 (QN ⟨(by simp_all),by subst hi3;exact Qx (by simp_all) (h_s1).1,trivial⟩)
  exact T2 (Qv trivial)
 rcases q6 with q6 | q6
 ·show Qj (QbO q6) _
  unfold QbO
  exact T3
 show Qj (QbP) _
 unfold QbP
 exact T3
theorem Qj5 (s1:(List ByteArray))(v2:ByteArray)(h_s1:(QT Qfs) s1)(h_v2:Qfs v2):Qj (QbQ s1 v2) fun r=>True:=by
 unfold QbQ
 refine T0 (Qlk s1 v2 (h_s1) (h_v2)) (fun x_1 hv2=>?_)
 exact T3
theorem QuC (s1:ByteArray)(h_s1:Qfs s1):Qj (Qla s1) fun r=>True:=by
 unfold Qla
 refine T0 (Qt0  ) (fun x_1 hv2=>?_)
 refine T0 (Qj5 x_1 s1 (hv2) (h_s1)) (fun x_3 hv4=>?_)
 exact T3
theorem QgL (s1:ByteArray)(h_s1:Qfs s1):Qj (Qd0 s1) fun r=>True:=by
 unfold Qd0
 refine T0 (P:=fun _=>True) ?_ (fun x_1 hv2=>?_)
 ·unfold QoH
  refine T0 (Qlj s1 (h_s1)) (fun x_3 hv4=>?_)
  refine T1 (fun hc5=>?_) (fun hc5=>?_)
  ·refine T0 (QuC s1 (h_s1)) (fun x_6 hv7=>?_)
   exact T3
  exact T3
 unfold Qh8
 exact T3
theorem Qoj (s1:ByteArray)(h_s1:Qfs s1):Qj (Qec s1) fun r=>True:=by
 unfold Qec
 refine T0 (QgL s1 (h_s1)) (fun x_1 hv2=>?_)
 exact T3
theorem QjS (s1:(List ByteArray))(h_s1:(QT Qfs) s1):Qj (QbF s1) fun r=>True:=by
 unfold QbF
 refine T0 (Qj.up (s1.length) (fun st=>st) (fun _=>True) (Q:=fun q=>True) rfl trivial (fun i2 st hi3 hn4 hj5=>?_)) (fun q6 hq7=>?_)
 ·obtain⟨x_1,hst⟩:∃y,y=st:=⟨_,rfl⟩
  subst hst
  replace hi3:x_1=(i2:Int):=hi3
  show Qj (Qbd s1 x_1) _
  unfold Qbd
  refine T1 (fun hc8=>?_) (fun hc8=>?_)
  ·refine T0 (T4 (by omega) (by simp_all)) (fun e_9 hv10=>?_)
   refine T0 (Qoj e_9 (((h_s1).2 e_9 hv10))) (fun x_11 hv12=>?_)
   refine T1 (fun hc13=>?_) (fun hc13=>?_)
   ·exact T2 (Qv trivial)
   exact T2 (QN ⟨(by simp_all),by subst hi3;exact Qx (by simp_all) (h_s1).1,trivial⟩)
  exact T2 (Qv trivial)
 rcases q6 with q6 | q6
 ·show Qj (Qbe q6) _
  unfold Qbe
  exact T3
 show Qj (Qbf) _
 unfold Qbf
 exact T3
theorem Qio (s1:(List ByteArray))(h_s1:(QT Qfs) s1):Qj (Qbg s1) fun r=>True:=by
 unfold Qbg
 refine T0 (QjS s1 (h_s1)) (fun x_1 hv2=>?_)
 exact T3
theorem QpB (v1:QP)(h_v1:Qdj v1):Qj (Qfk v1) fun r=>True:=by
 unfold Qfk
 refine T0 (P:=fun _=>True) ?_ (fun x_1 hv2=>?_)
 ·unfold Qj3
  refine T0 (QgL v1.Name (h_v1.1)) (fun x_3 hv4=>?_)
  refine T1 (fun hc5=>?_) (fun hc5=>?_)
  ·refine T1 (fun hc6=>?_) (fun hc6=>?_)
   ·exact T3
   refine T0 (Qio v1.Names (h_v1.2.2.2.2.1)) (fun x_7 hv8=>?_)
   exact T3
  exact T3
 unfold QdN
 exact T3
theorem Qrt (v1:Qm)(v2:Int)(v3:Int)(v4:QP)(v5:Int)(h_v1:QK v1)(h_v4:Qdj v4)(hp0:0≤v2)(hp1:v2<v1.Colours.length):Qj (Qg6 v1 v2 v3 v4 v5) fun r=>True:=by
 unfold Qg6
 refine T0 (QpA v1 v2 (h_v1) (by omega) (by omega)) (fun x_1 hv2=>?_)
 refine T1 (fun hc3=>?_) (fun hc3=>?_)
 ·exact T3
 refine T0 (QpB v4 (h_v4)) (fun x_4 hv5=>?_)
 refine T1 (fun hc6=>?_) (fun hc6=>?_)
 ·exact T3
 exact T3
theorem QqJ (k1:Int)(c2:QP)(v3:Qm)(h_c2:Qdj c2)(h_v3:QK v3)(hp0:0≤k1)(hp1:k1<v3.Colours.length):Qj (Qgo k1 c2 v3) fun r=>True:=by
 unfold Qgo
 refine T0 (Qrt v3 k1 8 c2 8 (h_v3) (h_c2) (by omega) (by omega)) (fun x_1 hv2=>?_)
 exact T3
theorem Qng (l1:(List QP))(v2:Qm)(h_l1:(QT Qdj) l1)(h_v2:QK v2)(hp0:l1.length≤v2.Colours.length):Qj (Qds l1 v2) fun r=>True:=by
 unfold Qds
 refine T0 (Qj.up (l1.length) (fun st=>st) (fun _=>True) (Q:=fun q=>True) rfl trivial (fun i2 st hi3 hn4 hj5=>?_)) (fun q6 hq7=>?_)
 ·obtain⟨x_1,hst⟩:∃y,y=st:=⟨_,rfl⟩
  subst hst
  replace hi3:x_1=(i2:Int):=hi3
  show Qj (QcC l1 v2 x_1) _
  unfold QcC
  refine T1 (fun hc8=>?_) (fun hc8=>?_)
  ·refine T0 (T4 (by omega) (by simp_all)) (fun e_9 hv10=>?_)
   refine T0 (QqJ x_1 e_9 v2 (((h_l1).2 e_9 hv10)) (h_v2) (by omega) (by simp_all;omega)) (fun x_11 hv12=>?_)
   refine T1 (fun hc13=>?_) (fun hc13=>?_)
   ·exact T2 (Qv trivial)
   exact T2 (QN ⟨(by simp_all),by subst hi3;exact Qx (by simp_all) (h_l1).1,trivial⟩)
  exact T2 (Qv trivial)
 rcases q6 with q6 | q6
 ·show Qj (QcD q6.1 q6.2) _
  unfold QcD
  exact T3
 show Qj (QcE) _
 unfold QcE
 exact T3
theorem QmW (n1:Qm)(h_n1:QK n1):Qj (QfK n1) fun r=>True:=by
 unfold QfK
 refine T0 (Qng n1.Colours n1 (h_n1.1) (h_n1) (by omega)) (fun x_1 hv2=>?_)
 exact T3
theorem Qsn (v1:QL)(h_v1:Qcr v1):Qj (Qh9 v1) fun r=>True:=by
 unfold Qh9
 refine T0 (QgL v1.Name (h_v1.1)) (fun x_1 hv2=>?_)
 exact T3
theorem Qso (p1:QL)(v2:QL)(h_p1:Qcr p1)(h_v2:Qcr v2):Qj (Qia p1 v2) fun r=>True:=by
 unfold Qia
 exact T3
theorem Qhn (s1:(List QL))(v2:QL)(h_s1:(QT Qcr) s1)(h_v2:Qcr v2):Qj (QaU s1 v2) fun r=>True:=by
 unfold QaU
 refine T0 (Qj.up (s1.length) (fun st=>st) (fun _=>True) (Q:=fun q=>True) rfl trivial (fun i2 st hi3 hn4 hj5=>?_)) (fun q6 hq7=>?_)
 ·obtain⟨x_1,hst⟩:∃y,y=st:=⟨_,rfl⟩
  subst hst
  replace hi3:x_1=(i2:Int):=hi3
  show Qj (QaE s1 v2 x_1) _
  unfold QaE
  refine T1 (fun hc8=>?_) (fun hc8=>?_)
  ·refine T0 (T4 (by omega) (by simp_all)) (fun e_9 hv10=>?_)
   refine T0 (Qso e_9 v2 (((h_s1).2 e_9 hv10)) (h_v2)) (fun x_11 hv12=>?_)
   refine T1 (fun hc13=>?_) (fun hc13=>?_)
   ·exact T2 (Qv trivial)
   exact T2 (QN ⟨(by simp_all),by subst hi3;exact Qx (by simp_all) (h_s1).1,trivial⟩)
  exact T2 (Qv trivial)
 rcases q6 with q6 | q6
 ·show Qj (QaF q6) _
  unfold QaF
  exact T3
 show Qj (QaG) _
 unfold QaG
 exact T3
theorem Qf7 (s1:(List QL))(v2:QL)(h_s1:(QT Qcr) s1)(h_v2:Qcr v2):Qj (QaH s1 v2) fun r=>True:=by
 unfold QaH
 refine T0 (Qhn s1 v2 (h_s1) (h_v2)) (fun x_1 hv2=>?_)
 exact T3
theorem Qsp (v1:Qm)(v2:Int)(v3:QL)(h_v1:QK v1)(h_v3:Qcr v3)(hp0:0≤v2)(hp1:v2<v1.Places.length):Qj (Qib v1 v2 v3) fun r=>True:=by
 unfold Qib
 refine T0 (T5 (by simp_all;omega)) (fun _ _=>?_)
 refine T0 (Qf7 ((v1.Places.drop 0).take (v2.toNat-0)) v3 (((h_v1.2.1).drop _).take _) (h_v3)) (fun x_1 hv2=>?_)
 exact T3
theorem QhA (l1:(List QP))(k2:Int)(h_l1:(QT Qdj) l1):Qj (Qcf l1 k2) fun r=>True:=by
 unfold Qcf
 exact T3
theorem Qsq (v1:Qm)(v2:QL)(h_v1:QK v1)(h_v2:Qcr v2):Qj (Qic v1 v2) fun r=>True:=by
 unfold Qic
 refine T0 (QhA v1.Colours v2.Colour (h_v1.1)) (fun x_1 hv2=>?_)
 exact T3
theorem Qvf (b1:(List (Int×Int)))(h_b1:(QT (fun _=>True)) b1):Qj (Qj1 b1) fun r=>True:=by
 unfold Qj1
 refine T0 (Qj.up (b1.length) (fun st=>st.2) (fun _=>True) (Q:=fun q=>True) rfl trivial (fun i3 st hi4 hn5 hj6=>?_)) (fun q7 hq8=>?_)
 ·obtain⟨last_1,x_2⟩:=st
  replace hi4:x_2=(i3:Int):=hi4
  show Qj (Qi9 b1 last_1 x_2) _
  unfold Qi9
  refine T1 (fun hc9=>?_) (fun hc9=>?_)
  ·refine T0 (T4 (by omega) (by simp_all)) (fun e_10 hv11=>?_)
   refine T1 (fun hc12=>?_) (fun hc12=>?_)
   ·exact T2 (Qv trivial)
   exact T2 (QN ⟨(by simp_all),by subst hi4;exact Qx (by simp_all) (h_b1).1,trivial⟩)
  exact T2 (Qv trivial)
 rcases q7 with q7 | q7
 ·show Qj (Qja) _
  unfold Qja
  exact T3
 show Qj (Qjb) _
 unfold Qjb
 exact T3
theorem Qsr (v1:QL)(h_v1:Qcr v1):Qj (Qid v1) fun r=>True:=by
 unfold Qid
 refine T0 (Qvf v1.First (h_v1.2.2)) (fun x_1 hv2=>?_)
 exact T3
theorem Qvg (l1:(List QP))(k2:Int)(h_l1:(QT Qdj) l1):Qj (QlX l1 k2) fun r=>(True∧Qve r.2)∧(r.1=true→(0≤k2∧k2<r.2.sizes.length)∧r.2.k=k2∧r.2.all.length=r.2.sizes.length∧∀x∈r.2.sizes,1≤x∧x≤1024):=by
 unfold QlX
 refine T0 (Qn7 l1 h_l1) fun x hx=>?_
 refine T1 (fun _=>T2 ⟨⟨trivial,QT.nil,QT.nil,trivial⟩,fun h=>by cases h⟩) fun hc=>?_
 simp only [QfF,QkK,Qb2]at hc
 have:=hx.2 hc.1
 exact T2 ⟨⟨trivial,h_l1,hx.1.1,trivial⟩,fun _=>⟨⟨by omega,by show k2<(x.1.length:Int);omega⟩,rfl,this.1.symm,this.2⟩⟩
theorem QoM (l1:(List QP))(k2:Int)(h_l1:(QT Qdj) l1):Qj (Qhv l1 k2) fun r=>0≤r∧r≤1024:=by
 unfold Qhv
 refine T0 (Qvg l1 k2 h_l1) (fun x hx=>?_)
 refine T1 (fun hc=>T2 (by omega)) (fun hc=>?_)
 have h:=hx.2 (by simpa using hc)
 exact T0 (T4 (by omega) (by omega)) fun e he=>T2 (by have:=h.2.2.2 e he;omega)
theorem QqK (row1:(Int×Int))(v2:Int)  : Qj (Qgp row1 v2) fun r=>True:=by
 unfold Qgp
 exact T3
theorem QjT (s1:(List (Int×Int)))(v2:Int)(h_s1:(QT (fun _=>True)) s1):Qj (QbG s1 v2) fun r=>True:=by
 unfold QbG
 refine T0 (Qj.up (s1.length) (fun st=>st) (fun _=>True) (Q:=fun q=>True) rfl trivial (fun i2 st hi3 hn4 hj5=>?_)) (fun q6 hq7=>?_)
 ·obtain⟨x_1,hst⟩:∃y,y=st:=⟨_,rfl⟩
  subst hst
  replace hi3:x_1=(i2:Int):=hi3
  show Qj (Qbh s1 v2 x_1) _
  unfold Qbh
  refine T1 (fun hc8=>?_) (fun hc8=>?_)
  ·refine T0 (T4 (by omega) (by simp_all)) (fun e_9 hv10=>?_)
   refine T0 (QqK e_9 v2 ) (fun x_11 hv12=>?_)
   refine T1 (fun hc13=>?_) (fun hc13=>?_)
   ·exact T2 (Qv trivial)
   exact T2 (QN ⟨(by simp_all),by subst hi3;exact Qx (by simp_all) (h_s1).1,trivial⟩)
  exact T2 (Qv trivial)
 rcases q6 with q6 | q6
 ·show Qj (Qbi q6) _
  unfold Qbi
  exact T3
 show Qj (Qbj) _
 unfold Qbj
 exact T3
theorem Qip (s1:(List (Int×Int)))(v2:Int)(h_s1:(QT (fun _=>True)) s1):Qj (Qbk s1 v2) fun r=>True:=by
 unfold Qbk
 refine T0 (QjT s1 v2 (h_s1)) (fun x_1 hv2=>?_)
 exact T3
theorem Qss (v1:Qm)(v2:QL)(h_v1:QK v1)(h_v2:Qcr v2):Qj (Qie v1 v2) fun r=>True:=by
 unfold Qie
 refine T0 (QoM v1.Colours v2.Colour (h_v1.1)) (fun x_1 hv2=>?_)
 refine T0 (Qip v2.First x_1 (h_v2.2.2)) (fun x_3 hv4=>?_)
 exact T3
theorem Qru (v1:QL)(v2:Int)(v3:Qm)(v4:Int)(v5:Int)(v6:Int)(v7:Int)(v8:Int)(h_v1:Qcr v1)(h_v3:QK v3)(hp0:0≤v4)(hp1:v4<v3.Places.length):Qj (Qg7 v1 v2 v3 v4 v5 v6 v7 v8) fun r=>True:=by
 unfold Qg7
 refine T0 (Qsn v1 (h_v1)) (fun x_1 hv2=>?_)
 refine T1 (fun hc3=>?_) (fun hc3=>?_)
 ·exact T3
 refine T0 (Qsp v3 v4 v1 (h_v3) (h_v1) (by omega) (by omega)) (fun x_4 hv5=>?_)
 refine T1 (fun hc6=>?_) (fun hc6=>?_)
 ·exact T3
 refine T0 (Qsq v3 v1 (h_v3) (h_v1)) (fun x_7 hv8=>?_)
 refine T1 (fun hc9=>?_) (fun hc9=>?_)
 ·exact T3
 refine T0 (Qsr v1 (h_v1)) (fun x_10 hv11=>?_)
 refine T1 (fun hc12=>?_) (fun hc12=>?_)
 ·exact T3
 refine T0 (Qss v3 v1 (h_v3) (h_v1)) (fun x_13 hv14=>?_)
 refine T1 (fun hc15=>?_) (fun hc15=>?_)
 ·exact T3
 exact T3
theorem Qt1 (n1:Qm)(k2:Int)(h_n1:QK n1):Qj (Qkh n1 k2) fun r=>True:=by
 unfold Qkh
 refine T0 (Qb6 n1.Places k2 (h_n1.2.1)) (fun x_1 hv2=>?_)
 refine T1 (fun hc3=>?_) (fun hc3=>?_)
 ·exact T3
 refine T0 (T4 (by simp_all) (by simp_all)) (fun e_4 hv5=>?_)
 refine T0 (Qru e_4 1 n1 k2 5 3 1 8 (((h_n1.2.1).2 e_4 hv5)) (h_n1) (by simp_all) (by simp_all)) (fun x_6 hv7=>?_)
 exact T3
theorem Qt2 (k1:Int)(p2:QL)(v3:Qm)(h_p2:Qcr p2)(h_v3:QK v3):Qj (Qki k1 p2 v3) fun r=>True:=by
 unfold Qki
 refine T0 (Qt1 v3 k1 (h_v3)) (fun x_1 hv2=>?_)
 exact T3
theorem Qn8 (l1:(List QL))(v2:Qm)(h_l1:(QT Qcr) l1)(h_v2:QK v2):Qj (QdO l1 v2) fun r=>True:=by
 unfold QdO
 refine T0 (Qj.up (l1.length) (fun st=>st) (fun _=>True) (Q:=fun q=>True) rfl trivial (fun i2 st hi3 hn4 hj5=>?_)) (fun q6 hq7=>?_)
 ·obtain⟨x_1,hst⟩:∃y,y=st:=⟨_,rfl⟩
  subst hst
  replace hi3:x_1=(i2:Int):=hi3
  show Qj (QcU l1 v2 x_1) _
  unfold QcU
  refine T1 (fun hc8=>?_) (fun hc8=>?_)
  ·refine T0 (T4 (by omega) (by simp_all)) (fun e_9 hv10=>?_)
   refine T0 (Qt2 x_1 e_9 v2 (((h_l1).2 e_9 hv10)) (h_v2)) (fun x_11 hv12=>?_)
   refine T1 (fun hc13=>?_) (fun hc13=>?_)
   ·exact T2 (Qv trivial)
   exact T2 (QN ⟨(by simp_all),by subst hi3;exact Qx (by simp_all) (h_l1).1,trivial⟩)
  exact T2 (Qv trivial)
 rcases q6 with q6 | q6
 ·show Qj (QcV q6.1 q6.2) _
  unfold QcV
  exact T3
 show Qj (QcW) _
 unfold QcW
 exact T3
theorem QiU (l1:(List Qw))(k2:Int)(h_l1:(QT Qay) l1):Qj (Qcy l1 k2) fun r=>r=true→0≤k2∧k2<l1.length:=by
 unfold Qcy
 exact T2 (by first | (intro hr;first | (cases hr;done) | omega | ((try simp only [Qy,QcA,QfF,Qex,QkK,Q2,Qb2,beq_iff_eq,bne_iff_ne,ne_eq,QmZ,Qop,Qfg,QlO,QkN,Qj6,QdK,Qga,QkG,QkH,Qjz]at *);omega)) | ((try simp only [Qy,QcA,QfF,Qex,QkK,Q2,Qb2,beq_iff_eq,bne_iff_ne,ne_eq,QmZ,Qop,Qfg,QlO,QkN,Qj6,QdK,Qga,QkG,QkH,Qjz]at *);omega) | simp_all)
theorem Qt3 (v1:Int)(v2:Qm)(v3:Qw)(h_v2:QK v2)(h_v3:Qay v3):Qj (Qkj v1 v2 v3) fun r=>True:=by
 unfold Qkj
 exact T3
theorem Qrv (v1:Int)(v2:Qm)(v3:Qw)(v4:Int)(h_v2:QK v2)(h_v3:Qay v3):Qj (Qg8 v1 v2 v3 v4) fun r=>True:=by
 unfold Qg8
 exact T3
theorem Qrw (v1:Int)(v2:Qm)(v3:Qw)(v4:Int)(h_v2:QK v2)(h_v3:Qay v3):Qj (Qg9 v1 v2 v3 v4) fun r=>True:=by
 unfold Qg9
 exact T3
theorem Qrx (v1:Int)(v2:Qm)(v3:Qw)(h_v2:QK v2)(h_v3:Qay v3):Qj (Qha v1 v2 v3) fun r=>True:=by
 unfold Qha
 exact T3
theorem Qtb (v1:Qw)(h_v1:Qay v1):Qj (Qjo v1) fun r=>True:=by
 unfold Qjo
 refine T0 (QgL v1.Name (h_v1.1)) (fun x_1 hv2=>?_)
 exact T3
theorem Qtc (p1:Qw)(v2:Qw)(h_p1:Qay p1)(h_v2:Qay v2):Qj (Qjp p1 v2) fun r=>True:=by
 unfold Qjp
 exact T3
theorem QhQ (s1:(List Qw))(v2:Qw)(h_s1:(QT Qay) s1)(h_v2:Qay v2):Qj (Qa9 s1 v2) fun r=>True:=by
 unfold Qa9
 refine T0 (Qj.up (s1.length) (fun st=>st) (fun _=>True) (Q:=fun q=>True) rfl trivial (fun i2 st hi3 hn4 hj5=>?_)) (fun q6 hq7=>?_)
 ·obtain⟨x_1,hst⟩:∃y,y=st:=⟨_,rfl⟩
  subst hst
  replace hi3:x_1=(i2:Int):=hi3
  show Qj (QaN s1 v2 x_1) _
  unfold QaN
  refine T1 (fun hc8=>?_) (fun hc8=>?_)
  ·refine T0 (T4 (by omega) (by simp_all)) (fun e_9 hv10=>?_)
   refine T0 (Qtc e_9 v2 (((h_s1).2 e_9 hv10)) (h_v2)) (fun x_11 hv12=>?_)
   refine T1 (fun hc13=>?_) (fun hc13=>?_)
   ·exact T2 (Qv trivial)
   exact T2 (QN ⟨(by simp_all),by subst hi3;exact Qx (by simp_all) (h_s1).1,trivial⟩)
  exact T2 (Qv trivial)
 rcases q6 with q6 | q6
 ·show Qj (QaO q6) _
  unfold QaO
  exact T3
 show Qj (QaP) _
 unfold QaP
 exact T3
theorem QgN (s1:(List Qw))(v2:Qw)(h_s1:(QT Qay) s1)(h_v2:Qay v2):Qj (QaQ s1 v2) fun r=>True:=by
 unfold QaQ
 refine T0 (QhQ s1 v2 (h_s1) (h_v2)) (fun x_1 hv2=>?_)
 exact T3
theorem Qtd (v1:Qm)(v2:Int)(v3:Qw)(h_v1:QK v1)(h_v3:Qay v3)(hp0:0≤v2)(hp1:v2<v1.Tasks.length):Qj (Qjq v1 v2 v3) fun r=>True:=by
 unfold Qjq
 refine T0 (T5 (by simp_all;omega)) (fun _ _=>?_)
 refine T0 (QgN ((v1.Tasks.drop 0).take (v2.toNat-0)) v3 (((h_v1.2.2.1).drop _).take _) (h_v3)) (fun x_1 hv2=>?_)
 exact T3
theorem Qte (v1:Int)(v2:Qw)(h_v2:Qay v2):Qj (QgF v1 v2) fun r=>True:=by
 unfold QgF
 exact T3
theorem Qok (v1:Qaz)(h_v1:QdB v1):Qj (Qed v1) fun r=>True:=by
 unfold Qed
 refine T0 (QgL v1.Name (h_v1.1)) (fun x_1 hv2=>?_)
 exact T3
theorem Qol (p1:Qaz)(v2:Qaz)(h_p1:QdB p1)(h_v2:QdB v2):Qj (Qee p1 v2) fun r=>True:=by
 unfold Qee
 exact T3
theorem QiV (s1:(List Qaz))(v2:Qaz)(h_s1:(QT QdB) s1)(h_v2:QdB v2):Qj (Qbp s1 v2) fun r=>True:=by
 unfold Qbp
 refine T0 (Qj.up (s1.length) (fun st=>st) (fun _=>True) (Q:=fun q=>True) rfl trivial (fun i2 st hi3 hn4 hj5=>?_)) (fun q6 hq7=>?_)
 ·obtain⟨x_1,hst⟩:∃y,y=st:=⟨_,rfl⟩
  subst hst
  replace hi3:x_1=(i2:Int):=hi3
  show Qj (QaZ s1 v2 x_1) _
  unfold QaZ
  refine T1 (fun hc8=>?_) (fun hc8=>?_)
  ·refine T0 (T4 (by omega) (by simp_all)) (fun e_9 hv10=>?_)
   refine T0 (Qol e_9 v2 (((h_s1).2 e_9 hv10)) (h_v2)) (fun x_11 hv12=>?_)
   refine T1 (fun hc13=>?_) (fun hc13=>?_)
   ·exact T2 (Qv trivial)
   exact T2 (QN ⟨(by simp_all),by subst hi3;exact Qx (by simp_all) (h_s1).1,trivial⟩)
  exact T2 (Qv trivial)
 rcases q6 with q6 | q6
 ·show Qj (Qa0 q6) _
  unfold Qa0
  exact T3
 show Qj (Qa1) _
 unfold Qa1
 exact T3
theorem QhB (s1:(List Qaz))(v2:Qaz)(h_s1:(QT QdB) s1)(h_v2:QdB v2):Qj (Qa2 s1 v2) fun r=>True:=by
 unfold Qa2
 refine T0 (QiV s1 v2 (h_s1) (h_v2)) (fun x_1 hv2=>?_)
 exact T3
theorem Qom (v1:(List Qaz))(v2:Int)(v3:Qaz)(h_v1:(QT QdB) v1)(h_v3:QdB v3)(hp0:0≤v2)(hp1:v2<v1.length):Qj (Qef v1 v2 v3) fun r=>True:=by
 unfold Qef
 refine T0 (T5 (by simp_all;omega)) (fun _ _=>?_)
 refine T0 (QhB ((v1.drop 0).take (v2.toNat-0)) v3 (((h_v1).drop _).take _) (h_v3)) (fun x_1 hv2=>?_)
 exact T3
theorem Qon (v1:Qm)(v2:Qaz)(h_v1:QK v1)(h_v2:QdB v2):Qj (Qeg v1 v2) fun r=>True:=by
 unfold Qeg
 refine T0 (QhA v1.Colours v2.Colour (h_v1.1)) (fun x_1 hv2=>?_)
 exact T3
theorem Qry (v1:Qaz)(v2:Int)(v3:(List Qaz))(v4:Int)(v5:Int)(v6:Qm)(v7:Int)(h_v1:QdB v1)(h_v3:(QT QdB) v3)(h_v6:QK v6)(hp0:0≤v4)(hp1:v4<v3.length):Qj (Qhc v1 v2 v3 v4 v5 v6 v7) fun r=>True:=by
 unfold Qhc
 refine T0 (Qok v1 (h_v1)) (fun x_1 hv2=>?_)
 refine T1 (fun hc3=>?_) (fun hc3=>?_)
 ·exact T3
 refine T0 (Qom v3 v4 v1 (h_v3) (h_v1) (by omega) (by omega)) (fun x_4 hv5=>?_)
 refine T1 (fun hc6=>?_) (fun hc6=>?_)
 ·exact T3
 refine T0 (Qon v6 v1 (h_v6) (h_v1)) (fun x_7 hv8=>?_)
 refine T1 (fun hc9=>?_) (fun hc9=>?_)
 ·exact T3
 exact T3
theorem QpC (k1:Int)(v2:Qaz)(v3:(List Qaz))(v4:Qm)(h_v2:QdB v2)(h_v3:(QT QdB) v3)(h_v4:QK v4)(hp0:0≤k1)(hp1:k1<v3.length):Qj (Qfl k1 v2 v3 v4) fun r=>True:=by
 unfold Qfl
 refine T0 (Qry v2 1 v3 k1 5 v4 3 (h_v2) (h_v3) (h_v4) (by omega) (by omega)) (fun x_1 hv2=>?_)
 exact T3
theorem Qo6 (l1:(List Qaz))(v2:(List Qaz))(v3:Qm)(h_l1:(QT QdB) l1)(h_v2:(QT QdB) v2)(h_v3:QK v3)(hp0:l1.length≤v2.length):Qj (QeE l1 v2 v3) fun r=>True:=by
 unfold QeE
 refine T0 (Qj.up (l1.length) (fun st=>st) (fun _=>True) (Q:=fun q=>True) rfl trivial (fun i2 st hi3 hn4 hj5=>?_)) (fun q6 hq7=>?_)
 ·obtain⟨x_1,hst⟩:∃y,y=st:=⟨_,rfl⟩
  subst hst
  replace hi3:x_1=(i2:Int):=hi3
  show Qj (Qdt l1 v2 v3 x_1) _
  unfold Qdt
  refine T1 (fun hc8=>?_) (fun hc8=>?_)
  ·refine T0 (T4 (by omega) (by simp_all)) (fun e_9 hv10=>?_)
   refine T0 (QpC x_1 e_9 v2 v3 (((h_l1).2 e_9 hv10)) (h_v2) (h_v3) (by omega) (by simp_all;omega)) (fun x_11 hv12=>?_)
   refine T1 (fun hc13=>?_) (fun hc13=>?_)
   ·exact T2 (Qv trivial)
   exact T2 (QN ⟨(by simp_all),by subst hi3;exact Qx (by simp_all) (h_l1).1,trivial⟩)
  exact T2 (Qv trivial)
 rcases q6 with q6 | q6
 ·show Qj (Qdu q6.1 q6.2) _
  unfold Qdu
  exact T3
 show Qj (Qdv) _
 unfold Qdv
 exact T3
theorem QqL (n1:Qm)(l2:(List Qaz))(h_n1:QK n1)(h_l2:(QT QdB) l2):Qj (Qgq n1 l2) fun r=>True:=by
 unfold Qgq
 refine T0 (Qo6 l2 l2 n1 (h_l2) (h_l2) (h_n1) (by omega)) (fun x_1 hv2=>?_)
 exact T3
theorem Qtf (v1:Qm)(v2:Qw)(h_v1:QK v1)(h_v2:Qay v2):Qj (Qjr v1 v2) fun r=>True:=by
 unfold Qjr
 refine T0 (QqL v1 v2.Vars (h_v1) (h_v2.2.1)) (fun x_1 hv2=>?_)
 exact T3
theorem Qst (v1:Qm)(v2:Qw)(v3:Int)(h_v1:QK v1)(h_v2:Qay v2):Qj (Qig v1 v2 v3) fun r=>True:=by
 unfold Qig
 refine T0 (Qtf v1 v2 (h_v1) (h_v2)) (fun x_1 hv2=>?_)
 exact T3
theorem Qt4 (n1:Qm)(k2:Int)(h_n1:QK n1):Qj (Qkk n1 k2) fun r=>True:=by
 unfold Qkk
 refine T0 (QiU n1.Tasks k2 (h_n1.2.2.1)) (fun x_1 hv2=>?_)
 refine T1 (fun hc3=>?_) (fun hc3=>?_)
 ·exact T3
 refine T0 (T4 (by simp_all) (by simp_all)) (fun e_4 hv5=>?_)
 refine T0 (Qj.up (e_4.Vars.length) (fun st=>st.2) (fun _=>True) (Q:=fun q=>True) rfl trivial (fun i8 st hi9 hn10 hj11=>?_)) (fun q12 hq13=>?_)
 ·obtain⟨out_6,x_7⟩:=st
  replace hi9:x_7=(i8:Int):=hi9
  show Qj (Qhd e_4 n1 out_6 x_7) _
  unfold Qhd
  refine T1 (fun hc14=>?_) (fun hc14=>?_)
  ·refine T0 (T4 (by omega) (by simp_all)) (fun e_15 hv16=>?_)
   refine T0 (QoM n1.Colours e_15.Colour (h_n1.1)) (fun x_17 hv18=>?_)
   refine T1 (fun hc19=>?_) (fun hc19=>?_)
   ·exact T2 (Qv trivial)
   exact T2 (QN ⟨(by simp_all),by subst hi9;exact Qx (by simp_all) (((h_n1.2.2.1).2 e_4 hv5).2.1).1,trivial⟩)
  exact T2 (Qv trivial)
 rcases q12 with q12 | q12
 ·show Qj (Qhe) _
  unfold Qhe
  exact T3
 show Qj (Qhf q12) _
 unfold Qhf
 exact T3
theorem Qtg (v1:Qm)(v2:Int)(h_v1:QK v1):Qj (Qjs v1 v2) fun r=>True:=by
 unfold Qjs
 refine T0 (Qt4 v1 v2 (h_v1)) (fun x_1 hv2=>?_)
 exact T3
theorem Qvh (kind1:Int):Qj (QlY kind1) fun r=>0≤r→(kind1=1∨kind1=2∨kind1=3∨kind1=4∨kind1=5∨kind1=6)∧(kind1=3∨kind1=4→r=1)∧(kind1=5→r=2)∧(kind1=6→r=3):=by
 unfold QlY
 refine T1 (fun hc=>?_) (fun hc=>?_)
 ·unfold QgH;rw [hc]
  simp only [beq_iff_eq]at hc
  exact T2 (by omega)
 simp only [beq_eq_false_iff_ne]at hc
 unfold QgH
 refine T1 (fun hc=>T2 (by simp only [beq_iff_eq]at hc;omega)) (fun hc2=>?_)
 simp only [beq_eq_false_iff_ne]at hc2
 refine T1 (fun hc3=>?_) (fun hc3=>?_)
 ·unfold QgG;rw [hc3]
  simp only [beq_iff_eq]at hc3
  exact T2 (by omega)
 simp only [beq_eq_false_iff_ne]at hc3
 unfold QgG
 refine T1 (fun hc=>T2 (by simp only [beq_iff_eq]at hc;omega)) (fun hc4=>?_)
 simp only [beq_eq_false_iff_ne]at hc4
 refine T1 (fun hc=>T2 (by simp only [beq_iff_eq]at hc;omega)) (fun hc5=>?_)
 simp only [beq_eq_false_iff_ne]at hc5
 exact T1 (fun hc=>T2 (by simp only [beq_iff_eq]at hc;omega)) (fun hc6=>T2 (by omega))
theorem QuD (op1:Int)  : Qj (Qlc op1) fun r=>True:=by
 unfold Qlc
 exact T3
theorem QlJ (rec_:Ql→Int→Option Bool)(s1:List Ql)(v2:Int)(h1:s1.length≤maxLen)(h:∀k∈s1,Qj (rec_ k v2) fun r=>r=true→POk v2 k):Qj (QaS rec_ s1 v2) fun r=>r=false→∀k∈s1,POk v2 k:=by
 unfold QaS Qcg
 refine T0 (P:=fun x=>x<0→∀k∈s1,POk v2 k) ?_ fun x hx=>T2 fun h=>hx (by simp only [Qb2]at h;omega)
 refine T0 (Qj.up s1.length (fun st=>st) (fun st=>∀(j:Nat) k,(j:Int)<st→s1[j]? = some k→POk v2 k) (Q:=fun q=>(∀x,q=.inl x→0≤x)∧(q=.inr ()→∀k∈s1,POk v2 k)) rfl (fun j k hj=>by omega) (fun i st hi hn hj=>?_)) (fun q hq=>?_)
 ·show Qj (QaR s1 rec_ v2 st) _
  unfold QaR QlD
  refine T1 (fun hc=>?_) (fun hc=>T2 (Qv ⟨fun x h=>(by cases h),fun _ k hk=>by
   obtain⟨j,hj1,hj2⟩:=Qm1.1 hk
   simp only [Qb2]at hc
   exact hj j k (by omega) (by rw [QD hj1,hj2])⟩))
  simp only [Q2]at hc
  rw [QrY (by omega)]
  have hlt:st.toNat<s1.length:=by omega
  rw [QD hlt]
  refine T0 (P:=fun k=>k=s1[st.toNat]) (T2 rfl) fun k hk=>?_
  subst hk
  refine T0 (P:=fun r=>r=false→POk v2 s1[st.toNat]) (T0 (h _ (Qbb hlt)) fun x hx=>T2 fun h=>hx (by simpa using h)) fun x hx=>?_
  refine T1 (fun _=>T2 (Qv ⟨fun x h=>(by cases h;omega),fun h=>(by cases h)⟩)) fun hxf=>T2 (QN ⟨by omega,by rw [hi];exact Qx (by omega) h1,?_⟩)
  rw [hi,Qx (show i<s1.length by omega) h1]
  intro j k hj' hk
  by_cases c:j=i
  ·subst c
   have e:st.toNat=j:=by omega
   have:=hx hxf
   rw [QD (by omega)]at hk
   cases hk
   simpa only [e] using this
  exact hj j k (by omega) hk
 rcases q with q | q
 ·exact T2 fun h=>absurd (hq.1 q rfl) (by omega)
 exact T2 fun _=>hq.2 rfl
theorem Qn9 : ∀(n:Nat) (e:Ql) (v:Int),Qde e→SizeOf.sizeOf e≤n→Qj (QdI n e v) fun r=>r=true→POk v e
 | 0,e,_,_,h=>absurd e.pos (by omega)
 | n+1,e,v,he,h=>by
  unfold QdI QlE
  refine T0 (Qvh e.Kind) fun x hx=>?_
  refine T1 (fun _=>T2 fun h=>by cases h) fun h1=>T1 (fun _=>T2 fun h=>by cases h) fun h2=>?_
  refine T0 (P:=fun _=>True) ?_ fun y _=>?_
  ·unfold QoI
   exact T1 (fun _=>T0 (QuD e.Num) fun x _=>T3) fun _=>T3
  unfold Qii
  refine T1 (fun _=>T2 fun h=>by cases h) fun _=>?_
  refine T0 (QlJ (QdI n) e.Kids v (Qd4 he).1 fun k hk=>Qn9 n k v ((Qd4 he).2 k hk) (by have:=QtS hk;omega)) fun x hx2=>T2 fun hx3=>?_
  simp only [bne_eq_false_iff_eq]at h1
  have h3:=hx (by omega)
  simp only [Bool.and_eq_false_iff,QfF,Qb2,beq_eq_false_iff_ne]at h2
  exact .mk e h3.1 (fun hk=>by omega) (fun hk=>by have:=h3.2.1 hk;omega) (fun hk=>by have:=h3.2.2.1 hk;omega) (fun hk=>by have:=h3.2.2.2 hk;omega) (hx2 (by simpa using hx3))
theorem QuE (e1:Ql)(vars2:Int)(h_e1:Qde e1):Qj (Qn0 e1 vars2) fun r=>r=true→POk vars2 e1:=Qn9 _ e1 vars2 h_e1 (Qa4 _)
theorem Qoa : ∀(n:Nat) (e:Ql),Qde e→SizeOf.sizeOf e≤n→Qj (QdH n e) fun _=>True
 | 0,e,_,h=>absurd e.pos (by omega)
 | n+1,e,he,h=>by
  unfold QdH QlB
  refine T0 (Qj.up e.Kids.length (fun st=>st.2) (fun _=>True) (Q:=fun _=>True) rfl trivial (fun i st hi hn _=>?_)) (fun q _=>?_)
  ·obtain⟨a,x⟩:=st
   replace hi:x=(i:Int):=hi
   show Qj (Qih e (QdH n) a x) _
   unfold Qih
   refine T1 (fun hc=>?_) (fun hc=>?_)
   ·simp only [Q2]at hc
    refine T0 (T4 (by omega) (by omega)) fun k hk=>?_
    have:=QtS hk
    refine T0 (Qoa n k ((Qd4 he).2 k hk) (by omega)) fun d _=>?_
    exact T2 (QN ⟨by omega,by subst hi;exact Qx (by omega) (Qd4 he).1,trivial⟩)
   exact T2 (Qv trivial)
  unfold Qlb
  exact T3
theorem QuF (e1:Ql)(h_e1:Qde e1):Qj (QnY e1) fun _=>True:=Qoa _ e1 h_e1 (Qa4 _)
theorem QoN : ∀(n:Nat) (e:Ql),Qde e→SizeOf.sizeOf e≤n→Qj (Qel n e) fun _=>True
 | 0,e,_,h=>absurd e.pos (by omega)
 | n+1,e,he,h=>by
  unfold Qel Qmu
  refine T0 (Qj.up e.Kids.length (fun st=>st.2) (fun _=>True) (Q:=fun _=>True) rfl trivial (fun i st hi hn _=>?_)) (fun q _=>?_)
  ·obtain⟨a,x⟩:=st
   replace hi:x=(i:Int):=hi
   show Qj (Qjt e (Qel n) a x) _
   unfold Qjt
   refine T1 (fun hc=>?_) (fun hc=>?_)
   ·simp only [Q2]at hc
    refine T0 (T4 (by omega) (by omega)) fun k hk=>?_
    have:=QtS hk
    refine T0 (QoN n k ((Qd4 he).2 k hk) (by omega)) fun d _=>?_
    exact T2 (QN ⟨by omega,by subst hi;exact Qx (by omega) (Qd4 he).1,trivial⟩)
   exact T2 (Qv trivial)
  unfold QlC
  exact T3
theorem Qvi (e1:Ql)(h_e1:Qde e1):Qj (Qo3 e1) fun _=>True:=QoN _ e1 h_e1 (Qa4 _)
theorem QpD (e1:Ql)(vars2:Int)(h_e1:Qde e1):Qj (QiK e1 vars2) fun r=>r=true→POk vars2 e1:=by
 unfold QiK
 refine T0 (P:=fun r=>r=true→POk vars2 e1) ?_ (fun x hx=>T2 hx)
 unfold QoJ
 refine T0 (QuF e1 h_e1) (fun x _=>?_)
 refine T1 (fun _=>?_) (fun _=>T2 fun h=>by cases h)
 refine T0 (Qvi e1 h_e1) (fun x _=>?_)
 refine T1 (fun _=>?_) (fun _=>T2 fun h=>by cases h)
 exact T0 (QuE e1 vars2 h_e1) (fun x hx=>T2 hx)
theorem Qth (v1:Qw)(v2:Int)(h_v1:Qay v1):Qj (Qju v1 v2) fun r=>True:=by
 unfold Qju
 refine T0 (P:=fun _=>True) ?_ (fun x_1 hv2=>?_)
 ·unfold QmR
  refine T0 (QpD v1.Guard v2 (h_v1.2.2.1)) (fun x_3 hv4=>?_)
  refine T1 (fun hc5=>?_) (fun hc5=>?_)
  ·refine T1 (fun hc6=>?_) (fun hc6=>?_)
   ·exact T3
   exact T3
  exact T3
 unfold Qgr
 exact T3
theorem Qrz (v1:Qm)(v2:Q0)(h_v1:QK v1)(h_v2:Qj4 v2):Qj (Qhg v1 v2) fun r=>True:=by
 unfold Qhg
 refine T0 (Qb6 v1.Places v2.Place (h_v1.2.1)) (fun x_1 hv2=>?_)
 exact T3
theorem QrA (v1:Q0)(v2:Int)(h_v1:Qj4 v1):Qj (Qhh v1 v2) fun r=>True:=by
 unfold Qhh
 refine T0 (QpD v1.Expr v2 (h_v1.2)) (fun x_1 hv2=>?_)
 exact T3
theorem QrB (v1:Qm)(v2:Q0)(v3:Int)(v4:Int)(v5:Int)(h_v1:QK v1)(h_v2:Qj4 v2):Qj (Qhi v1 v2 v3 v4 v5) fun r=>True:=by
 unfold Qhi
 refine T0 (Qrz v1 v2 (h_v1) (h_v2)) (fun x_1 hv2=>?_)
 refine T1 (fun hc3=>?_) (fun hc3=>?_)
 ·exact T3
 refine T0 (QrA v2 v4 (h_v2)) (fun x_4 hv5=>?_)
 refine T1 (fun hc6=>?_) (fun hc6=>?_)
 ·exact T3
 exact T3
theorem Qti (p1:Int)(a2:Q0)(v3:Qm)(v4:Int)(h_a2:Qj4 a2)(h_v3:QK v3):Qj (Qjv p1 a2 v3 v4) fun r=>True:=by
 unfold Qjv
 refine T0 (QrB v3 a2 3 v4 1 (h_v3) (h_a2)) (fun x_1 hv2=>?_)
 exact T3
theorem Qo7 (l1:(List Q0))(v2:Qm)(v3:Int)(h_l1:(QT Qj4) l1)(h_v2:QK v2):Qj (QeF l1 v2 v3) fun r=>True:=by
 unfold QeF
 refine T0 (Qj.up (l1.length) (fun st=>st) (fun _=>True) (Q:=fun q=>True) rfl trivial (fun i2 st hi3 hn4 hj5=>?_)) (fun q6 hq7=>?_)
 ·obtain⟨x_1,hst⟩:∃y,y=st:=⟨_,rfl⟩
  subst hst
  replace hi3:x_1=(i2:Int):=hi3
  show Qj (Qdw l1 v2 v3 x_1) _
  unfold Qdw
  refine T1 (fun hc8=>?_) (fun hc8=>?_)
  ·refine T0 (T4 (by omega) (by simp_all)) (fun e_9 hv10=>?_)
   refine T0 (Qti x_1 e_9 v2 v3 (((h_l1).2 e_9 hv10)) (h_v2)) (fun x_11 hv12=>?_)
   refine T1 (fun hc13=>?_) (fun hc13=>?_)
   ·exact T2 (Qv trivial)
   exact T2 (QN ⟨(by simp_all),by subst hi3;exact Qx (by simp_all) (h_l1).1,trivial⟩)
  exact T2 (Qv trivial)
 rcases q6 with q6 | q6
 ·show Qj (Qdx q6.1 q6.2) _
  unfold Qdx
  exact T3
 show Qj (Qdy) _
 unfold Qdy
 exact T3
theorem QpE (n1:Qm)(l2:(List Q0))(vars3:Int)(h_n1:QK n1)(h_l2:(QT Qj4) l2):Qj (QiL n1 l2 vars3) fun r=>True:=by
 unfold QiL
 refine T0 (Qo7 l2 n1 vars3 (h_l2) (h_n1)) (fun x_1 hv2=>?_)
 exact T3
theorem Qtj (v1:Qm)(v2:Qw)(v3:Int)(h_v1:QK v1)(h_v2:Qay v2):Qj (Qjw v1 v2 v3) fun r=>True:=by
 unfold Qjw
 refine T0 (QpE v1 v2.Ins v3 (h_v1) (h_v2.2.2.2.2.2.1)) (fun x_1 hv2=>?_)
 exact T3
theorem Qqj (v1:Qm)(v2:Qw)(v3:Int)(v4:Int)(h_v1:QK v1)(h_v2:Qay v2):Qj (QfL v1 v2 v3 v4) fun r=>True:=by
 unfold QfL
 refine T0 (Qtj v1 v2 v3 (h_v1) (h_v2)) (fun x_1 hv2=>?_)
 exact T3
theorem Qtk (v1:Qm)(v2:Qw)(v3:Int)(h_v1:QK v1)(h_v2:Qay v2):Qj (Qjx v1 v2 v3) fun r=>True:=by
 unfold Qjx
 refine T0 (QpE v1 v2.Outs v3 (h_v1) (h_v2.2.2.2.2.2.2.1)) (fun x_1 hv2=>?_)
 exact T3
theorem Qqk (v1:Qm)(v2:Qw)(v3:Int)(v4:Int)(h_v1:QK v1)(h_v2:Qay v2):Qj (QfM v1 v2 v3 v4) fun r=>True:=by
 unfold QfM
 refine T0 (Qtk v1 v2 v3 (h_v1) (h_v2)) (fun x_1 hv2=>?_)
 exact T3
theorem QpF (v1:Qm)(v2:Int)(h_v1:QK v1):Qj (Qfm v1 v2) fun r=>True:=by
 unfold Qfm
 refine T0 (Qb6 v1.Places v2 (h_v1.2.1)) (fun x_1 hv2=>?_)
 exact T3
theorem Qob (s1:(List Int))(v2:Int)(h_s1:(QT (fun _=>True)) s1):Qj (QdP s1 v2) fun r=>True:=by
 unfold QdP
 refine T0 (Qj.up (s1.length) (fun st=>st) (fun _=>True) (Q:=fun q=>True) rfl trivial (fun i2 st hi3 hn4 hj5=>?_)) (fun q6 hq7=>?_)
 ·obtain⟨x_1,hst⟩:∃y,y=st:=⟨_,rfl⟩
  subst hst
  replace hi3:x_1=(i2:Int):=hi3
  show Qj (QcX s1 v2 x_1) _
  unfold QcX
  refine T1 (fun hc8=>?_) (fun hc8=>?_)
  ·refine T0 (T4 (by omega) (by simp_all)) (fun e_9 hv10=>?_)
   refine T1 (fun hc11=>?_) (fun hc11=>?_)
   ·exact T2 (Qv trivial)
   exact T2 (QN ⟨(by simp_all),by subst hi3;exact Qx (by simp_all) (h_s1).1,trivial⟩)
  exact T2 (Qv trivial)
 rcases q6 with q6 | q6
 ·show Qj (QcY q6) _
  unfold QcY
  exact T3
 show Qj (QcZ) _
 unfold QcZ
 exact T3
theorem Qmm (s1:(List Int))(v2:Int)(h_s1:(QT (fun _=>True)) s1):Qj (Qc0 s1 v2) fun r=>True:=by
 unfold Qc0
 refine T0 (Qob s1 v2 (h_s1)) (fun x_1 hv2=>?_)
 exact T3
theorem QpG (v1:(List Int))(v2:Int)(v3:Int)(h_v1:(QT (fun _=>True)) v1)(hp0:0≤v2)(hp1:v2<v1.length):Qj (Qfn v1 v2 v3) fun r=>True:=by
 unfold Qfn
 refine T0 (T5 (by simp_all;omega)) (fun _ _=>?_)
 refine T0 (Qmm ((v1.drop 0).take (v2.toNat-0)) v3 (((h_v1).drop _).take _)) (fun x_1 hv2=>?_)
 exact T3
theorem QrC (v1:Qm)(v2:Int)(v3:Int)(v4:(List Int))(v5:Int)(v6:Int)(h_v1:QK v1)(h_v4:(QT (fun _=>True)) v4)(hp0:0≤v5)(hp1:v5<v4.length):Qj (Qhj v1 v2 v3 v4 v5 v6) fun r=>True:=by
 unfold Qhj
 refine T0 (QpF v1 v2 (h_v1)) (fun x_1 hv2=>?_)
 refine T1 (fun hc3=>?_) (fun hc3=>?_)
 ·exact T3
 refine T0 (QpG v4 v5 v2 (h_v4) (by omega) (by omega)) (fun x_4 hv5=>?_)
 refine T1 (fun hc6=>?_) (fun hc6=>?_)
 ·exact T3
 exact T3
theorem QqM (k1:Int)(place2:Int)(v3:Qm)(v4:(List Int))(h_v3:QK v3)(h_v4:(QT (fun _=>True)) v4)(hp0:0≤k1)(hp1:k1<v4.length):Qj (Qgs k1 place2 v3 v4) fun r=>True:=by
 unfold Qgs
 refine T0 (QrC v3 place2 3 v4 k1 5 (h_v3) (h_v4) (by omega) (by omega)) (fun x_1 hv2=>?_)
 exact T3
theorem QrD (l1:(List Int))(v2:Qm)(v3:(List Int))(h_l1:(QT (fun _=>True)) l1)(h_v2:QK v2)(h_v3:(QT (fun _=>True)) v3)(hp0:l1.length≤v3.length):Qj (Qhk l1 v2 v3) fun r=>True:=by
 unfold Qhk
 refine T0 (Qj.up (l1.length) (fun st=>st) (fun _=>True) (Q:=fun q=>True) rfl trivial (fun i2 st hi3 hn4 hj5=>?_)) (fun q6 hq7=>?_)
 ·obtain⟨x_1,hst⟩:∃y,y=st:=⟨_,rfl⟩
  subst hst
  replace hi3:x_1=(i2:Int):=hi3
  show Qj (Qfo l1 v2 v3 x_1) _
  unfold Qfo
  refine T1 (fun hc8=>?_) (fun hc8=>?_)
  ·refine T0 (T4 (by omega) (by simp_all)) (fun e_9 hv10=>?_)
   refine T0 (QqM x_1 e_9 v2 v3 (h_v2) (h_v3) (by omega) (by simp_all;omega)) (fun x_11 hv12=>?_)
   refine T1 (fun hc13=>?_) (fun hc13=>?_)
   ·exact T2 (Qv trivial)
   exact T2 (QN ⟨(by simp_all),by subst hi3;exact Qx (by simp_all) (h_l1).1,trivial⟩)
  exact T2 (Qv trivial)
 rcases q6 with q6 | q6
 ·show Qj (Qfp q6.1 q6.2) _
  unfold Qfp
  exact T3
 show Qj (Qfq) _
 unfold Qfq
 exact T3
theorem Qsu (n1:Qm)(l2:(List Int))(h_n1:QK n1)(h_l2:(QT (fun _=>True)) l2):Qj (Qij n1 l2) fun r=>True:=by
 unfold Qij
 refine T0 (QrD l2 n1 l2 (h_l2) (h_n1) (h_l2) (by omega)) (fun x_1 hv2=>?_)
 exact T3
theorem Qsv (v1:Qm)(v2:Qw)(h_v1:QK v1)(h_v2:Qay v2):Qj (Qik v1 v2) fun r=>True:=by
 unfold Qik
 refine T0 (Qsu v1 v2.Cancel (h_v1) (h_v2.2.2.2.2.2.2.2.1)) (fun x_1 hv2=>?_)
 exact T3
theorem Qql (v1:Qm)(v2:Qw)(v3:Int)(h_v1:QK v1)(h_v2:Qay v2):Qj (QfN v1 v2 v3) fun r=>True:=by
 unfold QfN
 refine T0 (Qsv v1 v2 (h_v1) (h_v2)) (fun x_1 hv2=>?_)
 exact T3
theorem QmX (k1:Int)(l2:(List Q0))(h_l2:(QT Qj4) l2):Qj (Qeh k1 l2) fun r=>True:=by
 unfold Qeh
 exact T3
theorem Qt5 (t1:Qw)(h_t1:Qay t1):Qj (Qhy t1) fun r=>True:=by
 unfold Qhy
 refine T0 (P:=fun _=>True) ?_ (fun x_1 hv2=>?_)
 ·unfold Qn1
  refine T0 (QmX t1.Join t1.Ins (h_t1.2.2.2.2.2.1)) (fun x_3 hv4=>?_)
  refine T1 (fun hc5=>?_) (fun hc5=>?_)
  ·refine T0 (QmX t1.Split t1.Outs (h_t1.2.2.2.2.2.2.1)) (fun x_6 hv7=>?_)
   refine T1 (fun hc8=>?_) (fun hc8=>?_)
   ·refine T1 (fun hc9=>?_) (fun hc9=>?_)
    ·refine T1 (fun hc10=>?_) (fun hc10=>?_)
     ·exact T3
     exact T3
    exact T3
   exact T3
  exact T3
 unfold Qhl
 exact T3
theorem Qsw (v1:Qw)(h_v1:Qay v1):Qj (Qil v1) fun r=>True:=by
 unfold Qil
 refine T0 (Qt5 v1 (h_v1)) (fun x_1 hv2=>?_)
 exact T3
theorem QrE (v1:Qw)(v2:Int)(v3:Qm)(v4:Int)(v5:Int)(v6:Int)(v7:Int)(v8:Int)(v9:Int)(v10:Int)(v11:Int)(v12:Int)(v13:Int)(v14:Int)(v15:Int)(h_v1:Qay v1)(h_v3:QK v3)(hp0:0≤v4)(hp1:v4<v3.Tasks.length):Qj (Qfb v1 v2 v3 v4 v5 v6 v7 v8 v9 v10 v11 v12 v13 v14 v15) fun r=>True:=by
 unfold Qfb
 refine T0 (Qtb v1 (h_v1)) (fun x_1 hv2=>?_)
 refine T1 (fun hc3=>?_) (fun hc3=>?_)
 ·exact T3
 refine T0 (Qtd v3 v4 v1 (h_v3) (h_v1) (by omega) (by omega)) (fun x_4 hv5=>?_)
 refine T1 (fun hc6=>?_) (fun hc6=>?_)
 ·exact T3
 refine T0 (Qte v6 v1 (h_v1)) (fun x_7 hv8=>?_)
 refine T1 (fun hc9=>?_) (fun hc9=>?_)
 ·exact T3
 refine T0 (Qst v3 v1 v8 (h_v3) (h_v1)) (fun x_10 hv11=>?_)
 refine T1 (fun hc12=>?_) (fun hc12=>?_)
 ·exact T3
 refine T0 (Qtg v3 v4 (h_v3)) (fun x_13 hv14=>?_)
 refine T1 (fun hc15=>?_) (fun hc15=>?_)
 ·exact T3
 refine T0 (Qth v1 v6 (h_v1)) (fun x_16 hv17=>?_)
 refine T1 (fun hc18=>?_) (fun hc18=>?_)
 ·exact T3
 refine T0 (Qqj v3 v1 v6 x_10.2 (h_v3) (h_v1)) (fun x_19 hv20=>?_)
 refine T1 (fun hc21=>?_) (fun hc21=>?_)
 ·exact T3
 refine T0 (Qqk v3 v1 v6 x_19.2 (h_v3) (h_v1)) (fun x_22 hv23=>?_)
 refine T1 (fun hc24=>?_) (fun hc24=>?_)
 ·exact T3
 refine T0 (Qql v3 v1 x_22.2 (h_v3) (h_v1)) (fun x_25 hv26=>?_)
 refine T1 (fun hc27=>?_) (fun hc27=>?_)
 ·exact T3
 refine T0 (Qsw v1 (h_v1)) (fun x_28 hv29=>?_)
 refine T1 (fun hc30=>?_) (fun hc30=>?_)
 ·exact T3
 exact T3
theorem QpH (n1:Qm)(k2:Int)(h_n1:QK n1):Qj (Qcz n1 k2) fun r=>True:=by
 unfold Qcz
 refine T0 (QiU n1.Tasks k2 (h_n1.2.2.1)) (fun x_1 hv2=>?_)
 refine T1 (fun hc3=>?_) (fun hc3=>?_)
 ·exact T3
 refine T0 (QmW n1 (h_n1)) (fun x_4 hv5=>?_)
 refine T1 (fun hc6=>?_) (fun hc6=>?_)
 ·exact T3
 refine T0 (T4 (by simp_all) (by simp_all)) (fun e_7 hv8=>?_)
 refine T0 (T4 (by simp_all) (by simp_all)) (fun e_9 hv10=>?_)
 refine T0 (Qt3 0 n1 e_7 (h_n1) (((h_n1.2.2.1).2 e_7 hv8))) (fun x_11 hv12=>?_)
 refine T0 (Qrv 0 n1 e_7 (e_9.Vars.length:Int) (h_n1) (((h_n1.2.2.1).2 e_7 hv8))) (fun x_13 hv14=>?_)
 refine T0 (Qrw 0 n1 e_7 (e_9.Vars.length:Int) (h_n1) (((h_n1.2.2.1).2 e_7 hv8))) (fun x_15 hv16=>?_)
 refine T0 (Qrx 0 n1 e_7 (h_n1) (((h_n1.2.2.1).2 e_7 hv8))) (fun x_17 hv18=>?_)
 refine T0 (QrE e_7 1 n1 k2 5 (e_9.Vars.length:Int) 2 0 (-1) 2 1 (-1) (-1) (-1) 11 (((h_n1.2.2.1).2 e_7 hv8)) (h_n1) (by simp_all) (by simp_all)) (fun x_19 hv20=>?_)
 refine T1 (fun hc21=>?_) (fun hc21=>?_)
 ·exact T3
 exact T3
theorem Qt6 (k1:Int)(p2:Qw)(v3:Qm)(h_p2:Qay p2)(h_v3:QK v3):Qj (Qhz k1 p2 v3) fun r=>True:=by
 unfold Qhz
 refine T0 (QpH v3 k1 (h_v3)) (fun x_1 hv2=>?_)
 exact T3
theorem Qoo (l1:(List Qw))(v2:Qm)(h_l1:(QT Qay) l1)(h_v2:QK v2):Qj (Qb8 l1 v2) fun r=>True:=by
 unfold Qb8
 refine T0 (Qj.up (l1.length) (fun st=>st) (fun _=>True) (Q:=fun q=>True) rfl trivial (fun i2 st hi3 hn4 hj5=>?_)) (fun q6 hq7=>?_)
 ·obtain⟨x_1,hst⟩:∃y,y=st:=⟨_,rfl⟩
  subst hst
  replace hi3:x_1=(i2:Int):=hi3
  show Qj (Qbu l1 v2 x_1) _
  unfold Qbu
  refine T1 (fun hc8=>?_) (fun hc8=>?_)
  ·refine T0 (T4 (by omega) (by simp_all)) (fun e_9 hv10=>?_)
   refine T0 (Qt6 x_1 e_9 v2 (((h_l1).2 e_9 hv10)) (h_v2)) (fun x_11 hv12=>?_)
   refine T1 (fun hc13=>?_) (fun hc13=>?_)
   ·exact T2 (Qv trivial)
   exact T2 (QN ⟨(by simp_all),by subst hi3;exact Qx (by simp_all) (h_l1).1,trivial⟩)
  exact T2 (Qv trivial)
 rcases q6 with q6 | q6
 ·show Qj (Qc7 q6.1 q6.2) _
  unfold Qc7
  exact T3
 show Qj (Qc8) _
 unfold Qc8
 exact T3
theorem Qvj (n1:Qm)(h_n1:QK n1):Qj (QhI n1) fun r=>True:=by
 unfold QhI
 refine T0 (QtW n1 2 3 1 (h_n1)) (fun x_1 hv2=>?_)
 refine T1 (fun hc3=>?_) (fun hc3=>?_)
 ·exact T3
 refine T0 (QmW n1 (h_n1)) (fun x_4 hv5=>?_)
 refine T1 (fun hc6=>?_) (fun hc6=>?_)
 ·exact T3
 refine T0 (Qn8 n1.Places n1 (h_n1.2.1) (h_n1)) (fun x_7 hv8=>?_)
 refine T1 (fun hc9=>?_) (fun hc9=>?_)
 ·exact T3
 refine T0 (Qoo n1.Tasks n1 (h_n1.2.2.1) (h_n1)) (fun x_10 hv11=>?_)
 refine T1 (fun hc12=>?_) (fun hc12=>?_)
 ·exact T3
 exact T3
end Go.Proofs
noncomputable section
namespace Go.Proofs
open Go Go.RowKit Go.Vm
end Go.Proofs
noncomputable section
namespace Go.Proofs
open Go Go.RowKit Go.Vm
theorem QwG : ∀(n:Nat) (e:Ql) (d:Int),Qde e→SizeOf.sizeOf e≤n→Qj (Qek n e d) fun _=>True
 | 0,e,_,_,h=>absurd e.pos (by omega)
 | n+1,e,d,he,h=>by
  unfold Qek Qms
  refine T1 (fun _=>T3) fun _=>?_
  refine T0 (Qj.up e.Kids.length (fun st=>st.2) (fun _=>True) (Q:=fun _=>True) rfl trivial (fun i st hi hn _=>?_)) (fun q _=>?_)
  ·obtain⟨a,x⟩:=st
   replace hi:x=(i:Int):=hi
   show Qj (Qjf e (Qek n) d a x) _
   unfold Qjf
   refine T1 (fun hc=>?_) (fun hc=>T2 (Qv trivial))
   simp only [Q2]at hc
   refine T0 (T4 (by omega) (by omega)) fun k hk=>?_
   have:=QtS hk
   refine T0 (QwG n k _ ((Qd4 he).2 k hk) (by omega)) fun y _=>?_
   refine T1 (fun _=>T2 (Qv trivial)) fun _=>T1 (fun _=>T2 (Qv trivial)) fun _=>?_
   exact T2 (QN ⟨by omega,by subst hi;exact Qx (by omega) (Qd4 he).1,trivial⟩)
  rcases q with q | q
  ·exact T3
  exact T3
theorem QuG (e:Ql)(he:Qde e):Qj (QhH e) fun _=>True:=by
 unfold QhH QoZ
 exact T0 (QwG _ e 60 he (Qa4 _)) fun _ _=>T3
theorem Qzd (n1:Qm)(h:QK n1)(q0:Int):Qj (Qh6 n1 q0) fun r=>r=true→q0≤400:=by
 unfold Qh6
 refine T0 (Qj.up n1.Tasks.length (fun st=>st.2) (fun _=>True) (Q:=fun _=>True) rfl trivial (fun i st hi hn _=>?_)) (fun q _=>?_)
 ·obtain⟨a,x⟩:=st
  replace hi:x=(i:Int):=hi
  show Qj (Qh5 n1 a x) _
  unfold Qh5
  refine T1 (fun hc=>?_) (fun _=>T2 (Qv trivial))
  simp only [Q2]at hc
  refine T0 (T4 (by omega) (by omega)) fun e he=>?_
  have ke:=h.2.2.1.2 e he
  refine T1 (fun _=>T2 (Qv trivial)) fun _=>?_
  refine T0 (Qj.up e.Vars.length (fun st=>st) (fun _=>True) (Q:=fun _=>True) rfl trivial (fun i2 st hi2 hn2 _=>?_)) (fun q _=>?_)
  ·show Qj (QhZ e st) _
   unfold QhZ
   refine T1 (fun hc=>?_) (fun _=>T2 (Qv trivial))
   simp only [Q2]at hc
   refine T0 (T4 (by omega) (by omega)) fun s _=>?_
   exact T1 (fun _=>T2 (Qv trivial)) fun _=>T2 (QN ⟨by omega,by rw [hi2];exact Qx (by omega) ke.2.1.1,trivial⟩)
  rcases q with q | q
  ·exact T2 (Qv trivial)
  show Qj (Qh4 e a x) _
  unfold Qh4
  refine T0 (QuG e.Guard ke.2.2.1) fun g _=>?_
  refine T0 (Qj.up e.Ins.length (fun st=>st.2) (fun _=>True) (Q:=fun _=>True) rfl trivial (fun i2 st hi2 hn2 _=>?_)) (fun q _=>?_)
  ·obtain⟨b,y⟩:=st
   replace hi2:y=(i2:Int):=hi2
   show Qj (Qh0 e b y) _
   unfold Qh0
   refine T1 (fun hc=>?_) (fun _=>T2 (Qv trivial))
   simp only [Q2]at hc
   refine T0 (T4 (by omega) (by omega)) fun s hs=>?_
   refine T0 (QuG s.Expr (ke.2.2.2.2.2.1.2 s hs).2) fun g _=>?_
   exact T2 (QN ⟨by omega,by subst hi2;exact Qx (by omega) ke.2.2.2.2.2.1.1,trivial⟩)
  show Qj (Qh3 e a x q) _
  unfold Qh3
  refine T0 (Qj.up e.Outs.length (fun st=>st.2) (fun _=>True) (Q:=fun _=>True) rfl trivial (fun i2 st hi2 hn2 _=>?_)) (fun q _=>?_)
  ·obtain⟨b,y⟩:=st
   replace hi2:y=(i2:Int):=hi2
   show Qj (Qh1 e b y) _
   unfold Qh1
   refine T1 (fun hc=>?_) (fun _=>T2 (Qv trivial))
   simp only [Q2]at hc
   refine T0 (T4 (by omega) (by omega)) fun s hs=>?_
   refine T0 (QuG s.Expr (ke.2.2.2.2.2.2.1.2 s hs).2) fun g _=>?_
   exact T2 (QN ⟨by omega,by subst hi2;exact Qx (by omega) ke.2.2.2.2.2.2.1.1,trivial⟩)
  show Qj (Qh2 a e x q) _
  unfold Qh2
  exact T1 (fun _=>T2 (Qv trivial)) fun _=>T2 (QN ⟨by omega,by subst hi;exact Qx (by omega) h.2.2.1.1,trivial⟩)
 rcases q with q | q
 ·exact T2 fun h=>by cases h
 exact T2 fun h=>by simpa using h
theorem Qze (n1:Qm)(h:QK n1):Qj (Qj2 n1) fun r=>r=true→n1.Colours.length≤40∧n1.Places.length≤70∧n1.Tasks.length≤70:=by
 unfold Qj2
 refine T1 (fun _=>T2 fun h=>by cases h) fun hc=>?_
 simp only [QfF,Qb2]at hc
 refine T6 (P:=fun _=>True) ?_ fun _ _ _=>by omega
 refine T0 (Qj.up n1.Colours.length (fun st=>st.2) (fun _=>True) (Q:=fun _=>True) rfl trivial (fun i st hi hn _=>?_)) (fun q _=>?_)
 ·obtain⟨a,x⟩:=st
  replace hi:x=(i:Int):=hi
  show Qj (Qji n1 a x) _
  unfold Qji
  refine T1 (fun hc=>?_) (fun _=>T2 (Qv trivial))
  simp only [Q2]at hc
  refine T0 (T4 (by omega) (by omega)).self fun e he=>?_
  obtain⟨he,hm⟩:=he
  refine T0 (P:=fun _=>True) ?_ fun y _=>?_
  ·unfold Qpr
   rw [he,Qh]
   exact T1 (fun _=>T3) fun _=>T3
  unfold Qjh
  refine T1 (fun _=>T2 (Qv trivial)) fun _=>?_
  refine T0 (Qj.up e.Names.length (fun st=>st) (fun _=>True) (Q:=fun _=>True) rfl trivial (fun i2 st hi2 hn2 _=>?_)) (fun q _=>?_)
  ·show Qj (Qjg n1 x st) _
   unfold Qjg
   simp only [he,Qh]
   refine T1 (fun hc=>?_) (fun _=>T2 (Qv trivial))
   simp only [Q2]at hc
   refine T0 (T4 (by omega) (by omega)) fun s _=>?_
   refine T1 (fun _=>T2 (Qv trivial)) fun _=>?_
   exact T2 (QN ⟨by omega,by rw [hi2];exact Qx (by omega) (h.1.2 e hm).2.2.2.2.1.1,trivial⟩)
  rcases q with q | q
  ·exact T2 (Qv trivial)
  exact T2 (QN ⟨by omega,by subst hi;exact Qx (by omega) h.1.1,trivial⟩)
 rcases q with q | q
 ·exact T3
 show Qj (Qh7 n1 q) _
 unfold Qh7
 refine T0 (Qj.up n1.Places.length (fun st=>st.2) (fun _=>True) (Q:=fun _=>True) rfl trivial (fun i st hi hn _=>?_)) (fun q _=>?_)
 ·obtain⟨a,x⟩:=st
  replace hi:x=(i:Int):=hi
  show Qj (Qjj n1 a x) _
  unfold Qjj
  refine T1 (fun hc=>?_) (fun _=>T2 (Qv trivial))
  simp only [Q2]at hc
  refine T0 (T4 (by omega) (by omega)) fun e _=>?_
  refine T0 (T4 (by omega) (by omega)) fun e2 _=>?_
  exact T1 (fun _=>T2 (Qv trivial)) fun _=>T2 (QN ⟨by omega,by subst hi;exact Qx (by omega) h.2.1.1,trivial⟩)
 rcases q with q | q
 ·exact T3
 exact(Qzd n1 h q).mono fun _ _=>trivial
def MOk (n:Qm)(c:Nat)(m:List (List (Int×Int))):Prop:=m.length=n.Places.length∧∀b∈m,Rt b∧b.length≤c
theorem MOk.mono {n:Qm}{c c':Nat}{m:List (List (Int×Int))}(h:MOk n c m)(hc:c≤c'):MOk n c' m:=⟨h.1,fun b hb=>⟨(h.2 b hb).1,QU (h.2 b hb).2 hc⟩⟩
structure Qnh (n:Qm):Prop where
 k:QK n
 pl:n.Places.length≤70
 tl:n.Tasks.length≤12
 tk:∀t∈n.Tasks,t.Vars.length≤16∧t.Ins.length≤16∧t.Outs.length≤16∧t.Cancel.length≤16
theorem QxW (n1:Qm)(k2:Int)(h:Qcz n1 k2=some 0):∃t,idx n1.Tasks k2=some t∧t.Vars.length≤16∧t.Ins.length≤16∧t.Outs.length≤16∧t.Cancel.length≤16:=by
 unfold Qcz at h
 obtain⟨x5,_,h⟩:=Qc h
 rcases Qt h with⟨_,h⟩|⟨_,h⟩
 ·cases h
 obtain⟨x7,_,h⟩:=Qc h
 rcases Qt h with⟨c,h⟩|⟨_,h⟩
 ·simp only [Option.some.injEq]at h;rw [h]at c;cases c
 obtain⟨e9,he9,h⟩:=Qc h
 obtain⟨e10,he10,h⟩:=Qc h
 rw [he9]at he10;cases he10
 obtain⟨_,_,h⟩:=Qc h
 obtain⟨_,_,h⟩:=Qc h
 obtain⟨_,_,h⟩:=Qc h
 obtain⟨_,_,h⟩:=Qc h
 obtain⟨x15,hx,h⟩:=Qc h
 have bad:∀a b:Int,0<a→x15=(a,b)→False:=fun a b ha e=>by
  subst e
  simp only at h
  rcases Qt h with⟨c,h⟩|⟨_,h⟩
  ·simp only [beq_iff_eq]at c;omega
  simp only [Option.some.injEq]at h;omega
 unfold Qfb at hx
 obtain⟨x20,_,hx⟩:=Qc hx
 rcases Qt hx with⟨_,hx⟩|⟨_,hx⟩
 ·exact(bad _ _ (by decide) (Option.some.inj hx).symm).elim
 obtain⟨x22,_,hx⟩:=Qc hx
 rcases Qt hx with⟨_,hx⟩|⟨_,hx⟩
 ·exact(bad _ _ (by decide) (Option.some.inj hx).symm).elim
 obtain⟨x24,h24,hx⟩:=Qc hx
 rcases Qt hx with⟨_,hx⟩|⟨c,hx⟩
 ·exact(bad _ _ (by decide) (Option.some.inj hx).symm).elim
 unfold QgF at h24
 simp only [Option.some.injEq]at h24
 rw [←h24]at c
 simp only [QkK,Qy,Q2,Qjz]at c
 exact⟨e9,he9,by omega,by omega,by omega,by omega⟩
theorem QwA (l1:List Qw)(n1:Qm)(h:QK n1)(hl:QT Qay l1):Qj (Qb8 l1 n1) fun r=>r.2=0→∀(j:Nat),j<l1.length→Qcz n1 j=some 0:=by
 unfold Qb8
 refine T0 (Qj.up l1.length (fun st=>st) (fun st=>∀(j:Nat),(j:Int)<st→Qcz n1 j=some 0) (Q:=fun q=>(∀a b,q=.inl (a,b)→b≠0)∧(q=.inr ()→∀(j:Nat),j<l1.length→Qcz n1 j=some 0)) rfl (fun j hj=>by omega) (fun i st hi hn hJ=>?_)) (fun q hq=>?_)
 ·show Qj (Qbu l1 n1 st) _
  unfold Qbu
  refine T1 (fun hc=>?_) (fun hc=>T2 (Qv ⟨fun a b h=>(by cases h),fun _ j hj=>by
   simp only [Qb2]at hc
   exact hJ j (by omega)⟩))
  simp only [Q2]at hc
  refine T0 (T4 (by omega) (by omega)) fun e he=>?_
  refine T0 (P:=fun x=>Qcz n1 st=some x) ?_ fun x hx=>?_
  ·unfold Qhz
   exact T0 (QpH n1 st h).self fun x hx=>T2 hx.1
  refine T1 (fun hc=>T2 (Qv ⟨fun a b h=>(by cases h;simpa using hc),fun h=>(by cases h)⟩)) fun hc=>?_
  simp only [bne_eq_false_iff_eq]at hc
  refine T2 (QN ⟨by omega,by rw [hi];exact Qx (by omega) hl.1,fun j hj=>?_⟩)
  rw [hi,Qx (show i<l1.length by omega) hl.1]at hj
  by_cases c:j=i
  ·subst c;rw [←hi,hx,hc]
  exact hJ j (by omega)
 rcases q with q | q
 ·exact T2 fun h=>absurd h (hq.1 q.1 q.2 rfl)
 exact T2 fun _=>hq.2 rfl
theorem QxX (n1:Qm)(h:QK n1){p:Qfi}(hn:QhI n1=some (0,p)):∀t∈n1.Tasks,t.Vars.length≤16∧t.Ins.length≤16∧t.Outs.length≤16∧t.Cancel.length≤16:=by
 unfold QhI at hn
 obtain⟨x6,_,hn⟩:=Qc hn
 rcases Qt hn with⟨c,hn⟩|⟨_,hn⟩
 ·simp only [Option.some.injEq,Prod.mk.injEq]at hn;rw [hn.1]at c;cases c
 obtain⟨x8,_,hn⟩:=Qc hn
 rcases Qt hn with⟨c,hn⟩|⟨_,hn⟩
 ·simp only [Option.some.injEq,Prod.mk.injEq]at hn;rw [hn.1]at c;cases c
 obtain⟨x10,_,hn⟩:=Qc hn
 rcases Qt hn with⟨c,hn⟩|⟨_,hn⟩
 ·simp only [Option.some.injEq,Prod.mk.injEq]at hn;rw [hn.1]at c;cases c
 obtain⟨x12,h12,hn⟩:=Qc hn
 rcases Qt hn with⟨c,hn⟩|⟨c,hn⟩
 ·simp only [Option.some.injEq,Prod.mk.injEq]at hn;rw [hn.1]at c;cases c
 simp only [bne_eq_false_iff_eq]at c
 obtain⟨r,hr,hr2⟩:=QwA n1.Tasks n1 h h.2.2.1
 rw [h12]at hr;cases hr
 intro t ht
 obtain⟨j,hj,rfl⟩:=Qm1.1 ht
 obtain⟨t,h1,h2⟩:=QxW n1 j (hr2 c j hj)
 rw [QB,QD hj]at h1
 cases h1
 exact h2
end Go.Proofs
noncomputable section
namespace Go.Proofs
open Go Go.RowKit Go.Vm
theorem MOk.len {n:Qm}{c:Nat}{m:List (List (Int×Int))}(h:MOk n c m)(hn:Qnh n)(hc:c≤1000000):QT (QT fun _=>True) m:=
 ⟨by have:=h.1;have:=hn.pl;unfold maxLen;omega,fun b hb=>⟨by have:=(h.2 b hb).2;unfold maxLen;omega,fun _ _=>trivial⟩⟩
end Go.Proofs
noncomputable section
namespace Go.Proofs
open Go Go.RowKit Go.Vm
def InI (a:Int):Prop:=-9223372036854775808≤a∧a≤9223372036854775807
instance (a : Int):Decidable (InI a):=by unfold InI;infer_instance
end Go.Proofs
noncomputable section
namespace Go.Proofs
open Go Go.RowKit Go.Vm
end Go.Proofs
noncomputable section
namespace Go.Proofs
open Go Go.RowKit Go.Vm
theorem QzO (n1:Qm)(h:QK n1):Qj (Qle n1) fun r=>r=true→Qnh n1∧n1.Places.length≤12∧n1.Tasks.length≤8:=by
 unfold Qle
 refine T0 (Qze n1 h) fun x5 h5=>?_
 refine T1 (fun _=>T2 fun h=>by cases h) fun hc=>?_
 simp only [QfF,QkK,Qb2]at hc
 have h5:=h5 hc.1
 refine T0 (Qvj n1 h).self fun x11 h11=>T2 fun he=>?_
 obtain⟨a,b⟩:=x11
 have:a=0:=by simpa using he
 subst this
 exact⟨⟨h,h5.2.1,by omega,QxX n1 h h11.1⟩,by omega,by omega⟩
def RowsIn (arcs:Int)(r:List (List Int)):Prop:=r.length≤16∧∀row∈r,row.length≤16∧∀k∈row,0≤k∧k<arcs
def chI (arcs:Int)(o:Option (List (List Int))):Bool:=match o with
 | some r=>decide (r.length≤16)&&r.all fun row=>decide (row.length≤16)&&row.all fun k=>decide (0≤k)&&decide (k<arcs)
 | none=>false
theorem Qv0 {arcs:Int}{o:Option (List (List Int))}(h:chI arcs o=true):Qj o (RowsIn arcs):=by
 cases o with
 | none=>cases h
 | some r=>
  simp only [chI,Qy,Q2,Q4]at h
  exact T2 h
theorem Qt7 {arcs:Int}(h0:¬arcs<0)(h1:¬16<arcs):arcs=0∨arcs=1∨arcs=2∨arcs=3∨arcs=4∨arcs=5∨arcs=6∨arcs=7∨arcs=8∨arcs=9∨arcs=10∨arcs=11∨arcs=12∨arcs=13∨arcs=14∨arcs=15∨arcs=16:=by omega
set_option maxRecDepth 100000 in
theorem QrZ (kind arcs:Int):Qj (Qbt kind arcs) (RowsIn arcs):=by
 by_cases hg:((decide (arcs<0))||((decide (16<arcs))||((kind==3)&&(decide (4<arcs)))))=true
 ·unfold Qbt
  rw [hg]
  exact T2 ⟨by simp,fun r h=>by cases h⟩
 simp only [QcA,Qy,Q2,beq_iff_eq,not_or,not_and]at hg
 obtain⟨h0,h1,h2⟩:=hg
 by_cases e1:kind=1
 ·subst e1
  rcases Qt7 h0 h1 with rfl | rfl | rfl | rfl | rfl | rfl | rfl | rfl | rfl | rfl | rfl | rfl | rfl | rfl | rfl | rfl | rfl<;>exact Qv0 (by kernel_rfl)
 by_cases e2:kind=2
 ·subst e2
  rcases Qt7 h0 h1 with rfl | rfl | rfl | rfl | rfl | rfl | rfl | rfl | rfl | rfl | rfl | rfl | rfl | rfl | rfl | rfl | rfl<;>exact Qv0 (by kernel_rfl)
 by_cases e3:kind=3
 ·subst e3
  have h3:=h2 rfl
  have:arcs=0∨arcs=1∨arcs=2∨arcs=3∨arcs=4:=by omega
  rcases this with rfl | rfl | rfl | rfl | rfl<;>exact Qv0 (by kernel_rfl)
 have f1:(kind==1)=false:=by simpa using e1
 have f2:(kind==2)=false:=by simpa using e2
 have f3:(kind==3)=false:=by simpa using e3
 unfold Qbt Qeq
 rw [f1,f2,f3]
 exact T1 (fun _=>T2 ⟨by simp,fun r h=>by cases h⟩) fun _=>T2 ⟨by simp,fun r h=>by cases h⟩
def Eff (n:Qm)(b:Int)(e:List Int):Prop:=e.length=n.Places.length∧∀x∈e,-b≤x∧x≤b
theorem Eff.mono {n:Qm}{a b:Int}{e:List Int}(h:Eff n a e)(hb:a≤b):Eff n b e:=⟨h.1,fun x hx=>by have:=h.2 x hx;omega⟩
theorem Qv1 (l:List Int)(p k B:Int)(hB:0≤B∧B≤1000)(hk:-1≤k∧k≤1)(hl:∀x∈l,-B≤x∧x≤B):Qj (QdG l p k) fun r=>r.length=l.length∧∀x∈r,-(B+1)≤x∧x≤B+1:=by
 unfold QdG
 refine T1 (fun hc=>?_) fun _=>T2 ⟨rfl,fun x hx=>by have:=hl x hx;omega⟩
 simp only [Qy,Q2]at hc
 refine T0 (T4 hc.1 hc.2) fun e he=>?_
 have:=hl e he
 refine T0 (T4 hc.1 hc.2) fun _ _=>T2 ⟨by simp,fun x hx=>?_⟩
 rcases List.mem_or_eq_of_mem_set hx with hx | rfl
 ·have:=hl x hx;omega
 rw [Qac (by omega)];omega
theorem QzP (n:Qm)(t:Qw)(row l:List Int)(hr:row.length≤16)(hk:∀k∈row,0≤k∧k<(t.Ins.length:Int))(hl:Eff n 0 l):Qj (Qq (fun st=>Qbx row t st.1 st.2) (0,l)) (Eff n 16):=by
 refine Qj.up row.length (fun st=>st.1) (fun st=>Eff n st.1 st.2) rfl hl (fun i st hi hn hJ=>?_)
 obtain⟨x,l⟩:=st
 replace hi:x=(i:Int):=hi
 subst hi
 replace hJ:Eff n (i:Int) l:=hJ
 show Qj (Qbx row t i l) _
 unfold Qbx
 refine T1 (fun hc=>?_) (fun hc=>T2 (Qv (hJ.mono (by omega))))
 simp only [Q2]at hc
 refine T0 (T4 (by omega) hc) fun k hk'=>?_
 have:=hk k hk'
 refine T0 (T4 this.1 this.2) fun a _=>?_
 refine T0 (Qv1 l a.Place (-1) i (by omega) (by omega) hJ.2) fun l' hl'=>?_
 refine T0 (T5 (by simpa using hl'.1)) fun _ _=>?_
 have hw:w64 ((i:Int)+1)=(i:Int)+1:=Qac (by omega)
 refine T2 (QN ⟨by omega,hw,hl'.1.trans hJ.1,?_⟩)
 show ∀x∈l',-(w64 ((i:Int)+1))≤x∧x≤w64 ((i:Int)+1)
 rw [hw];exact hl'.2
theorem QzQ (n:Qm)(t:Qw)(row l:List Int)(hr:row.length≤16)(hk:∀k∈row,0≤k∧k<(t.Outs.length:Int))(hl:Eff n 16 l):Qj (Qq (fun st=>Qby row t st.1 st.2) (0,l)) (Eff n 32):=by
 refine Qj.up row.length (fun st=>st.1) (fun st=>Eff n (16+st.1) st.2) rfl hl (fun i st hi hn hJ=>?_)
 obtain⟨x,l⟩:=st
 replace hi:x=(i:Int):=hi
 subst hi
 replace hJ:Eff n (16+(i:Int)) l:=hJ
 show Qj (Qby row t i l) _
 unfold Qby
 refine T1 (fun hc=>?_) (fun hc=>T2 (Qv (hJ.mono (by omega))))
 simp only [Q2]at hc
 refine T0 (T4 (by omega) hc) fun k hk'=>?_
 have:=hk k hk'
 refine T0 (T4 this.1 this.2) fun a _=>?_
 refine T0 (Qv1 l a.Place 1 (16+i) (by omega) (by omega) hJ.2) fun l' hl'=>?_
 refine T0 (T5 (by simpa using hl'.1)) fun _ _=>?_
 have hw:w64 ((i:Int)+1)=(i:Int)+1:=Qac (by omega)
 refine T2 (QN ⟨by omega,hw,hl'.1.trans hJ.1,?_⟩)
 show ∀x∈l',-(16+w64 ((i:Int)+1))≤x∧x≤16+w64 ((i:Int)+1)
 rw [hw];intro x hx;have:=hl'.2 x hx;omega
def Qho (n:Qm)(m:Int)(l:List (List Int)):Prop:=(l.length:Int)≤m∧∀e∈l,Eff n 32 e
theorem Qho.mono {n:Qm}{a b:Int}{l:List (List Int)}(h:Qho n a l)(hb:a≤b):Qho n b l:=⟨by have:=h.1;omega,h.2⟩
theorem QzR (n:Qm)(t:Qw)(ins:List Int)(outs l:List (List Int))(m:Int)(hp:n.Places.length≤12)(hi:ins.length≤16∧∀k∈ins,0≤k∧k<(t.Ins.length:Int))(ho:RowsIn (t.Outs.length:Int) outs)(hm:m≤100000)(hl:Qho n m l):Qj (Qq (fun st=>Qa6 outs n ins t st.1 st.2) (0,l)) (Qho n (m+16)):=by
 have ho1:=ho.1
 refine Qj.up outs.length (fun st=>st.1) (fun st=>Qho n (m+st.1) st.2) rfl (hl.mono (by show m≤m+0;omega)) (fun i st hi2 hn hJ=>?_)
 obtain⟨x,l⟩:=st
 replace hi2:x=(i:Int):=hi2
 subst hi2
 replace hJ:Qho n (m+(i:Int)) l:=hJ
 show Qj (Qa6 outs n ins t i l) _
 unfold Qa6
 refine T1 (fun hc=>?_) (fun hc=>T2 (Qv (hJ.mono (by omega))))
 simp only [Q2]at hc
 refine T0 (T4 (by omega) hc) fun row hrow=>?_
 have hrow:=ho.2 row hrow
 refine T0 (T5 (by simp;omega)) fun _ _=>?_
 refine T0 (QzP n t ins _ hi.1 hi.2 ⟨by simp,fun x hx=>by have:=(List.mem_replicate.1 hx).2;omega⟩) fun l1 h1=>?_
 show Qj (QcN row t l i l1) _
 unfold QcN
 refine T0 (QzQ n t row l1 hrow.1 hrow.2 h1) fun l2 h2=>?_
 show Qj (QdX l i l2) _
 unfold QdX
 have:=hJ.1
 refine T0 (T5 (by simp;omega)) fun _ _=>?_
 have hw:w64 ((i:Int)+1)=(i:Int)+1:=Qac (by omega)
 refine T2 (QN ⟨by omega,hw,?_,fun e he=>?_⟩)
 ·show((l++[l2]).length:Int)≤m+w64 ((i:Int)+1)
  rw [hw,Qfg,QlO];omega
 rcases Qdo.1 he with he | he
 ·exact hJ.2 e he
 rw [QrP.1 he];exact h2
theorem QzS (n:Qm)(t:Qw)(ins l:List (List Int))(m:Int)(hp:n.Places.length≤12)(hi:RowsIn (t.Ins.length:Int) ins)(hm:m≤10000)(hl:Qho n m l):Qj (Qq (fun st=>Qa7 ins t n st.1 st.2) (0,l)) (Qho n (m+256)):=by
 have hi1:=hi.1
 refine Qj.up ins.length (fun st=>st.1) (fun st=>Qho n (m+16*st.1) st.2) rfl (hl.mono (by show m≤m+16*0;omega)) (fun i st hi2 hn hJ=>?_)
 obtain⟨x,l⟩:=st
 replace hi2:x=(i:Int):=hi2
 subst hi2
 replace hJ:Qho n (m+16*(i:Int)) l:=hJ
 show Qj (Qa7 ins t n i l) _
 unfold Qa7
 refine T1 (fun hc=>?_) (fun hc=>T2 (Qv (hJ.mono (by omega))))
 simp only [Q2]at hc
 refine T0 (T4 (by omega) hc) fun row hrow=>?_
 refine T0 (QrZ _ _) fun outs ho=>?_
 refine T0 (QzR n t row outs l _ hp (hi.2 row hrow) ho (by omega) hJ) fun l1 h1=>?_
 show Qj (QdY i l1) _
 unfold QdY
 have hw:w64 ((i:Int)+1)=(i:Int)+1:=Qac (by omega)
 refine T2 (QN ⟨by omega,hw,?_⟩)
 show Qho n (m+16*w64 ((i:Int)+1)) l1
 rw [hw];exact h1.mono (by omega)
theorem Qv2 (n:Qm)(hp:n.Places.length≤12)(ht:n.Tasks.length≤8):Qj (Qb5 n) (Qho n 2048):=by
 unfold Qb5
 refine T0 (Qj.up n.Tasks.length (fun st=>st.1) (fun st=>Qho n (256*st.1) st.2) (Q:=Qho n 2048) rfl ⟨by simp,fun e he=>by cases he⟩ (fun i st hi2 hn hJ=>?_)) fun q hq=>T2 hq
 obtain⟨x,l⟩:=st
 replace hi2:x=(i:Int):=hi2
 subst hi2
 replace hJ:Qho n (256*(i:Int)) l:=hJ
 show Qj (QcO n i l) _
 unfold QcO
 refine T1 (fun hc=>?_) (fun hc=>T2 (Qv (hJ.mono (by omega))))
 simp only [Q2]at hc
 refine T0 (T4 (by omega) hc) fun t _=>?_
 refine T0 (QrZ _ _) fun ins hins=>?_
 refine T0 (QzS n t ins l _ hp hins (by omega) hJ) fun l1 h1=>?_
 show Qj (QfI i l1) _
 unfold QfI
 have hw:w64 ((i:Int)+1)=(i:Int)+1:=Qac (by omega)
 refine T2 (QN ⟨by omega,hw,?_⟩)
 show Qho n (256*w64 ((i:Int)+1)) l1
 rw [hw];exact h1.mono (by omega)
def Qfd (n:Qm)(k:Int):Bool:=decide (k<0)||decide ((n.Places.length:Int)≤k)
theorem QrF {α:Type}{l:List α}(p:α→Bool){body:Int→Option (Int⊕(Int⊕Unit))}(hs:∀(i:Nat) x,i<l.length→l[i]? = some x→body (i:Int)=some (bif p x then .inr (.inl (i:Int))else .inl ((i+1:Nat):Int)))(hf:body (l.length:Int)=some (.inr (.inr ()))):
  Qq body 0=some ((Qct (fun _ x=>p x) 0 l).elim (.inr ()) fun i=>.inl (i:Int)):=
 QuZ (ρ:=Int⊕Unit) (fun i:Nat=>(i:Int)) (fun _ x=>p x) (fun i=>Sum.inl (i:Int)) (Sum.inr ()) hs hf rfl
theorem QsJ {α:Type}{p:Nat→α→Bool}:∀{l:List α} {k n:Nat},Qct p k l=some n→∀i x,k+i<n→l[i]? = some x→p (k+i) x=false:=by
 intro l
 induction l with
 | nil=>intro k n h;cases h
 | cons y l ih=>
  intro k n h i x hi hx
  rw [Qct]at h
  cases hp:p k y with
  | true=>rw [hp]at h;cases h;omega
  | false=>
   rw [hp]at h
   cases i with
   | zero=>cases hx;exact hp
   | succ i=>
    have:=ih h i x (by omega) hx
    rwa [show k+1+i=k+(i+1) by omega]at this
theorem Qv3 {α:Type}(p:α→Bool)(l:List α):(decide (0≤(Qct (fun _ x=>p x) 0 l).elim (-1:Int) fun i=>(i:Int)))=l.any p:=by
 cases h:Qct (fun _ x=>p x) 0 l with
 | none=>
  have h2:=Qnf h
  show decide ((0:Int)≤-1)=_
  rw [eq_comm,show decide ((0:Int)≤-1)=false from rfl,List.any_eq_false]
  intro x hx
  obtain⟨i,hi⟩:=Qm0 hx
  rw [h2 i x hi];simp
 | some i=>
  obtain⟨j,x,_,h3,h4⟩:=Qne h
  show decide ((0:Int)≤(i:Int))=_
  rw [Qaa (by omega),eq_comm,QiZ]
  exact⟨x,QX h3,h4⟩
theorem Qu0 (l:List Int)(n:Qm)(hl:l.length≤maxLen):Qcc l n=some ((Qct (fun _ x=>Qfd n x) 0 l).elim (-1) fun i=>(i:Int)):=by
 unfold Qcc
 rw [QrF (l:=l) (Qfd n) (fun i x hi hx=>by
  show Qar l n i=_
  unfold Qar
  rw [Qaa (by omega),cond_true,QB,hx,Qh,show Qdc x n=some (Qfd n x)from rfl,Qh,Qx hi hl]
  cases Qfd n x<;>rfl) (by
  show Qar l n l.length=_
  unfold Qar
  rw [Q9 (by omega),cond_false])]
 cases Qct (fun _ x=>Qfd n x) 0 l<;>rfl
theorem QyM (n:Qm)(l:List Int)(hl:l.length≤1000):Qj (QaB l n) fun r=>r.length≤1000∧∀k∈r,Qfd n k=false:=by
 unfold QaB
 rw [Qu0 l n (by unfold maxLen;omega),Qh]
 cases hs:Qct (fun _ x=>Qfd n x) 0 l with
 | none=>
  refine T1 (fun _=>T2 ⟨hl,fun k hk=>?_⟩) fun hc=>by cases hc
  obtain⟨i,hi⟩:=Qm0 hk
  have:=Qnf hs i k hi
  exact this
 | some i0=>
  obtain⟨i1,x0,e0,hx0,_⟩:=Qne hs
  have hi0:i0<l.length:=by have:=(QC.1 hx0).1;omega
  refine T1 (fun hc=>by simp at hc) fun _=>?_
  show Qj ((Qq _ ((i0:Int),w64 ((i0:Int)+1),l)).bind _) _
  have hw:w64 ((i0:Int)+1)=(i0:Int)+1:=Qac (by omega)
  refine T0 (Qj.up (l.length-(i0+1)) (fun st=>st.2.1-((i0:Int)+1)) (fun st=>0≤st.1∧st.1<st.2.1∧st.2.2.length=l.length∧∀k∈st.2.2.take st.1.toNat,Qfd n k=false) (Q:=fun q:Int×List Int=>0≤q.1∧q.1≤(l.length:Int)∧q.2.length=l.length∧∀k∈q.2.take q.1.toNat,Qfd n k=false) (by show w64 ((i0:Int)+1)-((i0:Int)+1)=0;omega) ⟨by show(0:Int)≤i0;omega,by show(i0:Int)<w64 ((i0:Int)+1);omega,rfl,?_⟩ (fun i st hi hn hJ=>?_)) (fun q hq=>?_)
  ·show ∀k∈l.take (i0:Int).toNat,Qfd n k=false
   rw [Qff]
   intro k hk
   obtain⟨i,hi⟩:=Qm0 hk
   have hlt:=(QC.1 hi).1
   rw [QdK]at hlt
   rw [Qca,if_pos (by omega)]at hi
   exact QsJ hs i k (by omega) hi
  ·obtain⟨a,j,l2⟩:=st
   replace hi:j-((i0:Int)+1)=i:=hi
   obtain⟨j1,j2,j3,j4⟩:0≤a∧a<j∧l2.length=l.length∧∀k∈l2.take a.toNat,Qfd n k=false:=hJ
   show Qj (Qal n a j l2) _
   unfold Qal
   refine T1 (fun hc=>?_) (fun hc=>T2 (Qv ⟨j1,?_,j3,j4⟩))
   ·simp only [Q2]at hc
    have hj:j.toNat<l2.length:=by omega
    have hw2:w64 (j+1)=j+1:=Qac (by omega)
    have hw3:w64 (a+1)=a+1:=Qac (by omega)
    rw [Qn6 (by omega) (by omega),Qh,show Qdc l2[j.toNat] n=some (Qfd n l2[j.toNat])from rfl,Qh]
    refine T1 (fun hc2=>?_) fun hc2=>?_
    ·have hc2:Qfd n l2[j.toNat]=false:=by simpa using hc2
     refine T0 (T4 (by omega) (by omega)) fun _ _=>?_
     refine T2 (QN ⟨by omega,by show w64 (j+1)-((i0:Int)+1)=_;omega,by show 0≤w64 (a+1);omega,by show w64 (a+1)<w64 (j+1);omega,by simpa using j3,?_⟩)
     show ∀k∈(l2.set a.toNat l2[j.toNat]).take (w64 (a+1)).toNat,Qfd n k=false
     rw [hw3,show(a+1).toNat=a.toNat+1 by omega,QfH,List.getElem?_set_self (by omega),List.take_set_of_le (Qa4 _)]
     intro k hk
     rcases Qdo.1 hk with hk | hk
     ·exact j4 k hk
     simp at hk;subst hk;exact hc2
    exact T2 (QN ⟨by omega,by show w64 (j+1)-((i0:Int)+1)=_;omega,j1,by show a<w64 (j+1);omega,j3,j4⟩)
   simp only [Qb2]at hc
   omega
  obtain⟨a,l2⟩:=q
  obtain⟨q1,q2,q3,q4⟩:0≤a∧a≤(l.length:Int)∧l2.length=l.length∧∀k∈l2.take a.toNat,Qfd n k=false:=hq
  show Qj (Qam a l2) _
  unfold Qam
  refine T0 (T5 (by simp;omega)) fun _ _=>?_
  refine T0 (T5 (by simp;omega)) fun _ _=>T2 ?_
  rw [QrR (by simp;omega),List.take_take,Nat.min_self]
  exact⟨by simp;omega,q4⟩
theorem QxY {l:List Int}{x:Int}(h:x∈QcT l):x∈l:=by
 unfold QcT Lib.compact Lib.compactUpTo at h
 rw [Qp]at h
 obtain⟨j,hj,rfl⟩:=h
 have hj:=Qfh.1 (Qgd.1 hj).1
 rw [getElem!_pos l.toArray j (by simpa using hj)]
 simp
theorem Qv4 (n:Qm)(h:Qnh n)(ht:n.Tasks.length≤8):Qj (Qa8 n) fun r=>r.length≤1000∧∀k∈r,0≤k∧k<(n.Places.length:Int):=by
 unfold Qa8
 refine T0 (Qj.up n.Tasks.length (fun st=>st.1) (fun st=>(st.2.length:Int)≤16*st.1) (Q:=fun l:List Int=>l.length≤128) rfl (by simp) (fun i st hi2 hn hJ=>?_)) fun l hl=>?_
 ·obtain⟨x,l⟩:=st
  replace hi2:x=(i:Int):=hi2
  subst hi2
  replace hJ:(l.length:Int)≤16*(i:Int):=hJ
  show Qj (QcP n i l) _
  unfold QcP
  refine T1 (fun hc=>?_) (fun hc=>T2 (Qv (by omega)))
  simp only [Q2]at hc
  refine T0 (T4 (by omega) hc) fun t htm=>?_
  have:=(h.tk t htm).2.2.2
  refine T0 (T5 (by simp;omega)) fun _ _=>?_
  have hw:w64 ((i:Int)+1)=(i:Int)+1:=Qac (by omega)
  refine T2 (QN ⟨by omega,hw,?_⟩)
  show((l++t.Cancel).length:Int)≤16*w64 ((i:Int)+1)
  rw [hw,Qfg];omega
 show Qj (QcQ n l) _
 unfold QcQ Qea Qc4
 refine T0 (QyM n l (by omega)) fun l1 h1=>?_
 rw [Qjy (by omega),Qh,Qh]
 refine T0 (T5 (by simp [Ql3])) fun _ _=>?_
 rw [Qjy (by rw [Ql3];omega),Qh,Qh]
 refine T2 ⟨?_,fun k hk=>?_⟩
 ·refine QU ?_ h1.1
  rw [←Ql3 l1]
  unfold QcT Lib.compact Lib.compactUpTo
  rw [Qgb]
  refine QU (QpO _ _) ?_
  simp
 have:=h1.2 k ((Qm8 l1).mem_iff.1 (QxY hk))
 unfold Qfd at this
 simp at this
 omega
end Go.Proofs
noncomputable section
namespace Go.Proofs
open Go Go.RowKit Go.Vm
theorem Qt8 {τ ρ π:Type}{body:τ→π→Option (τ⊕ρ)}{s:τ}{p q:π}{o:τ⊕ρ}(h1:QcF body s [p,q]=some o)(h2:QcF body s [q,p]=some o):Qep body s [p,q]=some o:=by
 refine Qi3.2 ⟨fun l hl=>?_,h1⟩
 have hlen:=hl.length_eq
 match l,hl,hlen with
 | [a,b],hl,_=>
  have ha:a∈[p,q]:=hl.mem_iff.1 Q6
  simp only [QY,List.not_mem_nil,or_false]at ha
  rcases ha with rfl | rfl
  ·have:=List.perm_singleton.1 ((List.perm_cons a).1 hl)
   rw [this]
  have:=List.perm_singleton.1 ((List.perm_cons a).1 (hl.trans (List.Perm.swap a p [])))
  rw [this,h2,h1]
def Qo8 : Qm:=(QlW).getD (Qm.mk [] [] [] 0 0)
def QrG : List (Int×List Int):=[(0,[-1,1,0]),(2,[0,0,1])]
theorem Qxl : Qcu 3 QrG 1=some [1,1,0]:=by
 unfold Qcu
 rw [show QrG=[(0,[-1,1,0]),(2,[0,0,1])]from rfl,Qt8 (o:=.inl 1) (by kernel_rfl) (by kernel_rfl),Qh]
 show QbS 3 1 _ 1=_
 unfold QbS
 rw [show chk (decide ((0:Int)≤3)&&decide ((3:Int)≤3)&&decide ((3:Int)≤4294967296))=some () by kernel_rfl,Qh,show idx (List.replicate (3:Int).toNat (0:Int)) 1=some 0 by kernel_rfl,Qh,
  Qt8 (o:=.inl [1,1,0]) (by kernel_rfl) (by kernel_rfl)]
 rfl
theorem QwB : QbL Qo8=some ([[1,1,0]],0):=by
 have h1:QbL Qo8=QeX Qo8 QrG:=by kernel_rfl
 rw [h1]
 unfold QeX
 have b0:Qas Qo8 QrG 0 []=some (.inl (1,[])):=by kernel_rfl
 have b1:Qas Qo8 QrG 1 []=some (.inl (2,[[1,1,0]])):=by
  unfold Qas
  rw [show decide ((1:Int)<(Qo8.Places.length:Int))=true by kernel_rfl,cond_true,show(QbJ QrG 1).isSome=false by kernel_rfl,cond_false,show(Qo8.Places.length:Int)=3 by kernel_rfl,Qxl]
  kernel_rfl
 have b2:Qas Qo8 QrG 2 [[1,1,0]]=some (.inl (3,[[1,1,0]])):=by kernel_rfl
 have b3:Qas Qo8 QrG 3 [[1,1,0]]=some (.inr [[1,1,0]]):=by kernel_rfl
 rw [QbY,b0];simp only [Qh]
 rw [QbY,b1];simp only [Qh]
 rw [QbY,b2];simp only [Qh]
 rw [QbY,b3]
 rfl
theorem Qxm : Qka=some true:=by
 unfold Qka
 rw [show QlW=some Qo8 by kernel_rfl,Qh,QwB,Qh]
 kernel_rfl
end Go.Proofs
noncomputable section
namespace Go.Proofs
open Go Go.RowKit Go.Vm
end Go.Proofs
noncomputable section
namespace Go.Proofs
open Go Go.RowKit Go.Vm
theorem eqO {o p:Option (List (List Int))}(h:decide (o=p)=true):o=p:=Qab h
set_option maxRecDepth 100000 in
theorem QrH (kind arcs:Int):Qc9 kind arcs=Qbt kind arcs:=by
 by_cases hg:((decide (arcs<0))||((decide (16<arcs))||((kind==3)&&(decide (4<arcs)))))=true
 ·unfold Qbt Qc9
  rw [hg,cond_true,cond_true]
 have hg':=hg
 simp only [QcA,Qy,Q2,beq_iff_eq,not_or,not_and]at hg
 obtain⟨h0,h1,h2⟩:=hg
 by_cases e1:kind=1
 ·subst e1
  rcases Qt7 h0 h1 with rfl | rfl | rfl | rfl | rfl | rfl | rfl | rfl | rfl | rfl | rfl | rfl | rfl | rfl | rfl | rfl | rfl<;>exact eqO (by kernel_rfl)
 by_cases e2:kind=2
 ·subst e2
  rcases Qt7 h0 h1 with rfl | rfl | rfl | rfl | rfl | rfl | rfl | rfl | rfl | rfl | rfl | rfl | rfl | rfl | rfl | rfl | rfl<;>exact eqO (by kernel_rfl)
 by_cases e3:kind=3
 ·subst e3
  have h3:=h2 rfl
  have:arcs=0∨arcs=1∨arcs=2∨arcs=3∨arcs=4:=by omega
  rcases this with rfl | rfl | rfl | rfl | rfl<;>exact eqO (by kernel_rfl)
 have f1:(kind==1)=false:=by simpa using e1
 have f2:(kind==2)=false:=by simpa using e2
 have f3:(kind==3)=false:=by simpa using e3
 have t0:∃l,Qq (fun st=>QiM arcs st.1 st.2) (0,([]:List Int))=some l:=by
  rcases Qt7 h0 h1 with rfl | rfl | rfl | rfl | rfl | rfl | rfl | rfl | rfl | rfl | rfl | rfl | rfl | rfl | rfl | rfl | rfl<;>exact Option.isSome_iff_exists.1 (by kernel_rfl)
 obtain⟨l,hl⟩:=t0
 rw [QmZ]at hg'
 unfold Qbt Qc9
 rw [hg',cond_false,cond_false,hl,Qh]
 unfold QhP
 rw [f1,f2,f3]
 rfl
end Go.Proofs
noncomputable section
namespace Go.Proofs
open Go Go.RowKit Go.Vm
theorem QzT {x11:List (List Int)}{i14:Int}{e:List Int}(t:Qw)(h:idx x11 i14=some e)(a:Int)(l:List Int):Qd1 x11 i14 t a l=Qbx e t a l:=by
 unfold Qd1 Qbx
 rw [h,Qh]
 cases decide (a<(e.length:Int))with
 | false=>rfl
 | true=>
  rw [cond_true,cond_true,Qh]
  cases idx e a with
  | none=>rfl
  | some k=>
   rw [Qh,Qh]
   cases idx t.Ins k with
   | none=>rfl
   | some c=>
    rw [Qh,Qh]
    unfold QdG
    cases (decide (0≤c.Place)&&decide (c.Place<(l.length:Int)))with
    | false=>rw [cond_false,cond_false,Qh,Qjy rfl];rfl
    | true=>
     rw [cond_true,cond_true]
     cases idx l c.Place with
     | none=>rfl
     | some y=>simp only [Qh];rw [Qjy (by simp)];rfl
theorem QzU {x12:List (List Int)}{j:Int}{e:List Int}(t:Qw)(h:idx x12 j=some e)(a:Int)(l:List Int):Qd2 x12 j t a l=Qby e t a l:=by
 unfold Qd2 Qby
 rw [h,Qh]
 cases decide (a<(e.length:Int))with
 | false=>rfl
 | true=>
  rw [cond_true,cond_true,Qh]
  cases idx e a with
  | none=>rfl
  | some k=>
   rw [Qh,Qh]
   cases idx t.Outs k with
   | none=>rfl
   | some c=>
    rw [Qh,Qh]
    unfold QdG
    cases (decide (0≤c.Place)&&decide (c.Place<(l.length:Int)))with
    | false=>rw [cond_false,cond_false,Qh,Qjy rfl];rfl
    | true=>
     rw [cond_true,cond_true]
     cases idx l c.Place with
     | none=>rfl
     | some y=>simp only [Qh];rw [Qjy (by simp)];rfl
theorem QzV {x11:List (List Int)}{i14:Int}{e:List Int}(n:Qm)(x12:List (List Int))(t:Qw)(h:idx x11 i14=some e)(j:Int)(hj:0≤j)(l:List (List Int)):QfP x12 n x11 i14 t j l=Qa6 x12 n e t j l:=by
 unfold QfP Qa6
 by_cases c:j<(x12.length:Int)
 ·rw [Qaa c,cond_true,cond_true,show(fun st:Int×List Int=>Qd1 x11 i14 t st.1 st.2)=fun st=>Qbx e t st.1 st.2 from funext fun st=>QzT t h st.1 st.2]
  rw [Qn6 hj c,Qh]
  have e4:(fun st:Int×List Int=>Qd2 x12 j t st.1 st.2)=fun st=>Qby (x12[j.toNat]'(by omega)) t st.1 st.2:=funext fun st=>QzU t (Qn6 hj c) st.1 st.2
  unfold QiR QcN
  rw [e4];rfl
 rw [Q9 c,cond_false,cond_false]
theorem Qu1 {σ ρ:Type}{b1 b2:σ→Option (σ⊕ρ)}(n:Nat)(ix:σ→Int)(s0:σ)(h0:ix s0=0)(he:∀s,0≤ix s→b1 s=b2 s)(hn:∀s s',0≤ix s→b2 s=some (.inl s')→ix s<n∧ix s'=ix s+1):Qq b1 s0=Qq b2 s0:=by
 have key:∀(k:Nat) s,0≤ix s→(n:Int)-ix s≤k→Qq b1 s=Qq b2 s:=by
  intro k
  induction k with
  | zero=>
   intro s hs hk
   rw [QbY,QbY (body:=b2),he s hs]
   cases hb:b2 s with
   | none=>rfl
   | some o=>
    cases o with
    | inr r=>rfl
    | inl s'=>have:=hn s s' hs hb;omega
  | succ k ih=>
   intro s hs hk
   rw [QbY,QbY (body:=b2),he s hs]
   cases hb:b2 s with
   | none=>rfl
   | some o=>
    cases o with
    | inr r=>rfl
    | inl s'=>
     obtain⟨h1,h2⟩:=hn s s' hs hb
     exact ih s' (by omega) (by omega)
 exact key n s0 (by omega) (by omega)
theorem QAN {x12:List (List Int)}{n:Qm}{e:List Int}{t:Qw}{s s':Int×List (List Int)}(hl:x12.length≤16)(hs:0≤s.1)(h:Qa6 x12 n e t s.1 s.2=some (.inl s')):s.1<(16:Nat)∧s'.1=s.1+1:=by
 unfold Qa6 at h
 rcases Qt h with⟨c,h⟩|⟨c,h⟩
 ·simp only [Q2]at c
  obtain⟨_,_,h⟩:=Qc h
  obtain⟨_,_,h⟩:=Qc h
  obtain⟨_,_,h⟩:=Qc h
  unfold QcN at h
  obtain⟨_,_,h⟩:=Qc h
  unfold QdX at h
  obtain⟨_,_,h⟩:=Qc h
  simp only [Option.some.injEq,Sum.inl.injEq]at h
  subst h
  exact⟨by omega,Qac (by omega)⟩
 simp at h
theorem QAO {x11:List (List Int)}{n:Qm}{t:Qw}{s s':Int×List (List Int)}(hl:x11.length≤16)(hs:0≤s.1)(h:Qa7 x11 t n s.1 s.2=some (.inl s')):s.1<(16:Nat)∧s'.1=s.1+1:=by
 unfold Qa7 at h
 rcases Qt h with⟨c,h⟩|⟨c,h⟩
 ·simp only [Q2]at c
  obtain⟨_,_,h⟩:=Qc h
  obtain⟨_,_,h⟩:=Qc h
  obtain⟨_,_,h⟩:=Qc h
  unfold QdY at h
  simp only [Option.some.injEq,Sum.inl.injEq]at h
  subst h
  exact⟨by omega,Qac (by omega)⟩
 simp at h
theorem QzW (x11 x12:List (List Int))(n:Qm)(t:Qw)(h12:Qbt t.Split (t.Outs.length:Int)=some x12)(hl:x12.length≤16)(i:Int)(hi:0≤i)(l:List (List Int)):QfQ x11 x12 n t i l=Qa7 x11 t n i l:=by
 unfold QfQ Qa7
 by_cases c:i<(x11.length:Int)
 ·rw [Qaa c,cond_true,cond_true,Qn6 hi c,Qh,h12,Qh,Qu1 16 (fun st:Int×List (List Int)=>st.1) (0,l) rfl (fun st hs=>QzV n x12 t (Qn6 hi c) st.1 hs st.2) (fun s s' hs h=>QAN hl hs h)]
  rfl
 rw [Q9 c,cond_false,cond_false]
theorem Qv5 (n:Qm):Qim n=Qb5 n:=by
 unfold Qim Qb5
 rw [show(fun st:Int×List (List Int)=>Qfr n st.1 st.2)=fun st=>QcO n st.1 st.2 from funext fun st=>?_]
 ·rfl
 unfold Qfr QcO
 cases decide (st.1<(n.Tasks.length:Int))with
 | false=>rfl
 | true=>
  rw [cond_true,cond_true]
  cases idx n.Tasks st.1 with
  | none=>rfl
  | some t=>
   rw [Qh,Qh,QrH,QrH]
   obtain⟨x11,h11,o11⟩:=QrZ t.Join (t.Ins.length:Int)
   obtain⟨x12,h12,o12⟩:=QrZ t.Split (t.Outs.length:Int)
   rw [h11,Qh,Qh,h12,Qh,Qu1 16 (fun st:Int×List (List Int)=>st.1) (0,st.2) rfl (fun st hs=>QzW x11 x12 n t h12 o12.1 st.1 hs st.2) (fun s s' hs h=>QAO o11.1 hs h)]
   rfl
end Go.Proofs
noncomputable section
namespace Go.Proofs
open Go Go.RowKit Go.Vm
theorem QxZ {l:List Int}{x:Int}:x∈QcT l↔x∈l:=by
 unfold QcT Lib.compact Lib.compactUpTo
 rw [Qp]
 constructor
 ·rintro ⟨i,hi,rfl⟩
  have hl:=Qfh.1 (Qgd.1 hi).1
  have:l.toArray[i]! = l[i]:=by simp [hl]
  rw [this];exact Qbb hl
 intro hx
 obtain⟨i,hi,rfl⟩:=Qm1.1 hx
 have key:∀i (hi:i<l.length),∃a,a∈(List.range l.length).filter (Lib.keeps l.toArray)∧l.toArray[a]! = l[i]:=by
  intro i
  induction i with
  | zero=>
   intro hi
   exact⟨0,Qgd.2 ⟨Qfh.2 hi,by simp [Lib.keeps]⟩,by simp [hi]⟩
  | succ i ih=>
   intro hi
   by_cases c:l[i+1]=l[i]
   ·rw [c];exact ih (by omega)
   refine⟨i+1,Qgd.2 ⟨Qfh.2 hi,?_⟩,by simp [hi]⟩
   have h1:l.toArray[i+1]! = l[i+1]:=by simp [hi]
   have h2:l.toArray[i]! = l[i]:=by simp [show i<l.length by omega]
   unfold Lib.keeps
   rw [Nat.add_sub_cancel,h1,h2]
   simpa using c
 exact key i hi
theorem Qxn {l:List Int}(h:l.Pairwise (·≤·)):(QcT l).Pairwise (·<·):=by
 unfold QcT Lib.compact Lib.compactUpTo
 rw [Qm2]
 have hp:((List.range l.length).filter (Lib.keeps l.toArray)).Pairwise (·<·):=List.Pairwise.filter _ List.pairwise_lt_range
 refine hp.imp_of_mem fun {i j} hi hj hij=>?_
 have hjl:=Qfh.1 (Qgd.1 hj).1
 have hk:=(Qgd.1 hj).2
 have e:∀k,k<l.length→l.toArray[k]! = l.getD k 0:=fun k hk=>by simp [hk]
 unfold Lib.keeps at hk
 rw [decide_eq_true_iff]at hk
 rw [e i (by omega),e j hjl]
 rw [e j hjl,e (j-1) (by omega)]at hk
 have mono:∀a b,a≤b→b<l.length→l.getD a 0≤l.getD b 0:=fun a b hab hb=>by
  rcases Nat.lt_or_eq_of_le hab with h1 | h1
  ·have:=List.pairwise_iff_getElem.1 h a b (by omega) hb h1
   simpa [show a<l.length by omega,hb] using this
  subst h1;exact Int.le_refl _
 have h1:=mono i (j-1) (by omega) (by omega)
 have h2:=mono (j-1) j (by omega) hjl
 rcases hk with hk | hk
 ·omega
 omega
def gdI (n:Qm)(k:Int):Bool:=!Qfd n k
theorem QzX (n:Qm)(l:List Int)(hl:l.length≤1000):Qj (QaB l n) fun r=>r=l.filter (gdI n):=by
 unfold QaB
 rw [Qu0 l n (by unfold maxLen;omega),Qh]
 cases hs:Qct (fun _ x=>Qfd n x) 0 l with
 | none=>
  refine T1 (fun _=>T2 (List.filter_eq_self.2 fun k hk=>?_).symm) fun hc=>by cases hc
  obtain⟨i,hi⟩:=Qm0 hk
  have:Qfd n k=false:=Qnf hs i k hi
  unfold gdI
  rw [this];rfl
 | some i0=>
  obtain⟨i1,x0,e0,hx0,hbad0⟩:=Qne hs
  have hi0:i0<l.length:=by have:=(QC.1 hx0).1;omega
  have hbad:gdI n l[i0]=false:=by
   have:i1=i0:=by omega
   subst this
   rw [QD hi0]at hx0
   cases hx0
   unfold gdI
   rw [show Qfd n l[i1]=true from hbad0];rfl
  have hx1:∀k∈l.take i0,gdI n k=true:=fun k hk=>by
   obtain⟨i,hi⟩:=Qm0 hk
   have hlt:=(QC.1 hi).1
   rw [QdK]at hlt
   rw [Qca,if_pos (by omega)]at hi
   have:Qfd n k=false:=QsJ hs i k (by omega) hi
   unfold gdI
   rw [this];rfl
  refine T1 (fun hc=>by simp at hc) fun _=>?_
  show Qj ((Qq _ ((i0:Int),w64 ((i0:Int)+1),l)).bind _) _
  have hw:w64 ((i0:Int)+1)=(i0:Int)+1:=Qac (by omega)
  refine T0 (Qj.up (l.length-(i0+1)) (fun st=>st.2.1-((i0:Int)+1)) (fun st=>0≤st.1∧st.1<st.2.1∧st.2.2.length=l.length∧st.2.2.take st.1.toNat=(l.take st.2.1.toNat).filter (gdI n)∧st.2.2.drop st.2.1.toNat=l.drop st.2.1.toNat) (Q:=fun q:Int×List Int=>0≤q.1∧q.1≤(l.length:Int)∧q.2.length=l.length∧q.2.take q.1.toNat=l.filter (gdI n)) (by show w64 ((i0:Int)+1)-((i0:Int)+1)=0;omega) ⟨by show(0:Int)≤i0;omega,by show(i0:Int)<w64 ((i0:Int)+1);omega,rfl,?_,rfl⟩ (fun i st hi hn hJ=>?_)) (fun q hq=>?_)
  ·show l.take (i0:Int).toNat=(l.take (w64 ((i0:Int)+1)).toNat).filter (gdI n)
   rw [hw,Qff,show((i0:Int)+1).toNat=i0+1 by omega,QfH,QD hi0,List.filter_append,List.filter_eq_self.2 hx1]
   show l.take i0=l.take i0++List.filter (gdI n) [l[i0]]
   rw [QlM,hbad]
   exact(Qoq _).symm
  ·obtain⟨a,j,l2⟩:=st
   replace hi:j-((i0:Int)+1)=i:=hi
   obtain⟨j1,j2,j3,j4,j5⟩:0≤a∧a<j∧l2.length=l.length∧l2.take a.toNat=(l.take j.toNat).filter (gdI n)∧l2.drop j.toNat=l.drop j.toNat:=hJ
   show Qj (Qal n a j l2) _
   unfold Qal
   refine T1 (fun hc=>?_) (fun hc=>T2 (Qv ⟨j1,?_,j3,?_⟩))
   ·simp only [Q2]at hc
    have hj:j.toNat<l2.length:=by omega
    have hj':j.toNat<l.length:=by omega
    have ej:l2[j.toNat]=l[j.toNat]:=by
     have:=congrArg List.head? j5
     rw [QrL hj,QrL hj']at this
     exact Option.some.inj this
    have ej5:l2.drop (j.toNat+1)=l.drop (j.toNat+1):=by
     have:=congrArg List.tail j5
     simpa using this
    have hw2:w64 (j+1)=j+1:=Qac (by omega)
    have hw3:w64 (a+1)=a+1:=Qac (by omega)
    have tk:l.take (j+1).toNat=l.take j.toNat++[l[j.toNat]]:=by
     rw [show(j+1).toNat=j.toNat+1 by omega,QfH,QD hj'];rfl
    rw [Qn6 (by omega) (by omega),Qh,show Qdc l2[j.toNat] n=some (Qfd n l2[j.toNat])from rfl,Qh]
    refine T1 (fun hc2=>?_) fun hc2=>?_
    ·have hc2:gdI n l[j.toNat]=true:=by rw [←ej];exact hc2
     refine T0 (T4 (by omega) (by omega)) fun _ _=>?_
     refine T2 (QN ⟨by omega,by show w64 (j+1)-((i0:Int)+1)=_;omega,by show 0≤w64 (a+1);omega,by show w64 (a+1)<w64 (j+1);omega,by simpa using j3,?_,?_⟩)
     ·show(l2.set a.toNat l2[j.toNat]).take (w64 (a+1)).toNat=(l.take (w64 (j+1)).toNat).filter (gdI n)
      rw [hw2,hw3,tk,List.filter_append,←j4,show(a+1).toNat=a.toNat+1 by omega,QfH,List.getElem?_set_self (by omega),List.take_set_of_le (Qa4 _),ej]
      simp [hc2]
     show(l2.set a.toNat l2[j.toNat]).drop (w64 (j+1)).toNat=l.drop (w64 (j+1)).toNat
     rw [hw2,show(j+1).toNat=j.toNat+1 by omega,List.drop_set_of_lt (by omega),ej5]
    have hc2:gdI n l[j.toNat]=false:=by rw [←ej];exact hc2
    refine T2 (QN ⟨by omega,by show w64 (j+1)-((i0:Int)+1)=_;omega,j1,by show a<w64 (j+1);omega,j3,?_,?_⟩)
    ·show l2.take a.toNat=(l.take (w64 (j+1)).toNat).filter (gdI n)
     rw [hw2,tk,List.filter_append,←j4]
     simp [hc2]
    show l2.drop (w64 (j+1)).toNat=l.drop (w64 (j+1)).toNat
    rw [hw2,show(j+1).toNat=j.toNat+1 by omega,ej5]
   ·simp only [Qb2]at hc
    show a≤_
    omega
   simp only [Qb2]at hc
   show l2.take a.toNat=_
   rw [j4,Qgg (by omega)]
  obtain⟨q1,q2⟩:=q
  obtain⟨h1,h2,h3,h4⟩:0≤q1∧q1≤l.length∧q2.length=l.length∧q2.take q1.toNat=l.filter (gdI n):=hq
  show Qj (Qam q1 q2) _
  unfold Qam
  refine T0 (T5 (by simp only [Qy,Q2];omega)) fun _ _=>?_
  refine T0 (T5 (by simp only [Qy,Q2,Qfg,QdK,List.length_replicate];omega)) fun _ _=>?_
  refine T2 ?_
  rw [QrR (by simp;omega),List.take_take,Nat.min_self,h4]
def Qr0 (n:Qm):List Int:=n.Tasks.flatMap fun t=>t.Cancel
theorem Qxo (n:Qm)(h:Qnh n)(ht:n.Tasks.length≤8):Qa8 n=some (QcT (QlV ((Qr0 n).filter (gdI n)))):=by
 have main:Qj (Qa8 n) fun r=>r=QcT (QlV ((Qr0 n).filter (gdI n))):=by
  unfold Qa8
  refine T0 (Qj.up n.Tasks.length (fun st=>st.1) (fun st=>(st.2.length:Int)≤16*st.1∧st.2=(n.Tasks.take st.1.toNat).flatMap fun t=>t.Cancel) (Q:=fun l:List Int=>l.length≤128∧l=Qr0 n) rfl ⟨by simp,rfl⟩ (fun i st hi2 hn hJ=>?_)) fun l hl=>?_
  ·obtain⟨x,l⟩:=st
   replace hi2:x=(i:Int):=hi2
   subst hi2
   obtain⟨hJ,hJ2⟩:(l.length:Int)≤16*(i:Int)∧l=(n.Tasks.take (i:Int).toNat).flatMap fun t=>t.Cancel:=hJ
   rw [Qff]at hJ2
   show Qj (QcP n i l) _
   unfold QcP
   refine T1 (fun hc=>?_) (fun hc=>T2 (Qv ⟨by omega,?_⟩))
   ·simp only [Q2]at hc
    have i1:i<n.Tasks.length:=by omega
    rw [QB,QD i1,Qh]
    have:=(h.tk _ (Qbb i1)).2.2.2
    refine T0 (T5 (by simp;omega)) fun _ _=>?_
    have hw:w64 ((i:Int)+1)=(i:Int)+1:=Qac (by omega)
    refine T2 (QN ⟨by omega,hw,?_,?_⟩)
    ·show((l++n.Tasks[i].Cancel).length:Int)≤16*w64 ((i:Int)+1)
     rw [hw,Qfg];omega
    show l++n.Tasks[i].Cancel=(n.Tasks.take (w64 ((i:Int)+1)).toNat).flatMap fun t=>t.Cancel
    rw [hw,show((i:Int)+1).toNat=i+1 by omega,QfH,QD i1,List.flatMap_append,←hJ2]
    simp
   simp only [Qb2]at hc
   show l=Qr0 n
   unfold Qr0
   rw [hJ2,Qgg (by omega)]
  show Qj (QcQ n l) _
  unfold QcQ Qea Qc4
  obtain⟨hl,hl2⟩:=hl
  have hf:=QpO (gdI n) l
  refine T0 (QzX n l (by omega)) fun l1 h1=>?_
  subst h1 hl2
  rw [Qjy (by omega),Qh,Qh]
  refine T0 (T5 (by simp [Ql3])) fun _ _=>?_
  rw [Qjy (by rw [Ql3];omega),Qh,Qh]
  exact T2 rfl
 obtain⟨r,h1,h2⟩:=main
 rw [h1,h2]
theorem Qx0 {body:Int×List Int→Option ((Int×List Int)⊕List Int)}(N:Nat)(p:Nat→Bool)(hs:∀(i:Nat) l,i<N→l.length≤i→body ((i:Int),l)=some (.inl (((i+1:Nat):Int),bif p i then l++[(i:Int)]else l)))(hf:∀l,body ((N:Int),l)=some (.inr l)):
  Qq body (0,[])=some (((List.range N).filter p).map fun (i:Nat)=>(i:Int)):=by
 obtain⟨r,h1,h2⟩:=QbB (body:=body) N (fun i st=>st.1=(i:Int)∧st.2.length≤i∧st.2=((List.range i).filter p).map fun (i:Nat)=>(i:Int)) (fun r=>r=((List.range N).filter p).map fun (i:Nat)=>(i:Int)) (fun i st hi hI=>by
  obtain⟨x,l⟩:=st
  obtain⟨e1,e2,e3⟩:x=(i:Int)∧l.length≤i∧l=((List.range i).filter p).map fun (i:Nat)=>(i:Int):=hI
  subst e1
  refine .inl ⟨_,hs i l hi e2,rfl,?_,?_⟩
  ·show(bif p i then l++[(i:Int)]else l).length≤i+1
   cases p i<;>simp<;>omega
  ·show(bif p i then l++[(i:Int)]else l)=_
   rw [List.range_succ,List.filter_append,QkP,←e3]
   cases h:p i<;>simp [h]) (fun st hI=>by
  obtain⟨x,l⟩:=st
  obtain⟨e1,e2,e3⟩:x=(N:Int)∧l.length≤N∧l=((List.range N).filter p).map fun (i:Nat)=>(i:Int):=hI
  subst e1
  exact⟨l,hf l,e3⟩) (0,[]) ⟨rfl,by simp,rfl⟩
 rw [h1,h2]
end Go.Proofs
noncomputable section
namespace Go.Proofs
open Go Go.RowKit Go.Vm
theorem QyN {α:Type}(key:α→Int):∀{l m:List α},l.Pairwise (fun x y=>key x<key y)→m.Pairwise (fun x y=>key x<key y)→(∀x,x∈l↔x∈m)→l=m:=by
 intro l
 induction l with
 | nil=>
  intro m _ _ h
  cases m with
  | nil=>rfl
  | cons y m=>exact absurd ((h y).2 Q6) (by simp)
 | cons x l ih=>
  intro m hl hm h
  cases m with
  | nil=>exact absurd ((h x).1 Q6) (by simp)
  | cons y m=>
   obtain⟨hl1,hl2⟩:=List.pairwise_cons.1 hl
   obtain⟨hm1,hm2⟩:=List.pairwise_cons.1 hm
   have e:x=y:=by
    rcases QY.1 ((h x).1 Q6)with h1 | h1
    ·exact h1
    rcases QY.1 ((h y).2 Q6)with h2 | h2
    ·exact h2.symm
    have:=hm1 x h1;have:=hl1 y h2;omega
   subst e
   rw [ih hl2 hm2 fun z=>?_]
   constructor
   ·intro hz
    rcases QY.1 ((h z).1 (Qag _ hz))with h1 | h1
    ·subst h1;have:=hl1 z hz;omega
    exact h1
   intro hz
   rcases QY.1 ((h z).2 (Qag _ hz))with h1 | h1
   ·subst h1;have:=hm1 z hz;omega
   exact h1
theorem Qv6 {α:Type}(f:α→Bool):∀(l:List α) (k:Nat) (t:Bool),Qli (fun (_:Nat) (t:Bool) x=>(.inl (t||f x):Bool⊕Bool)) (fun t=>t) k t l=(t||l.any f):=by
 intro l
 induction l with
 | nil=>intro k t;simp [Qli]
 | cons x l ih=>intro k t;rw [Qli];show Qli _ _ _ _ l=_;rw [ih];simp [Bool.or_assoc]
theorem Qzf {n:Qm}{k:Nat}{t:Qw}(ht:n.Tasks[k]? = some t)(hc:t.Cancel.length≤16)(p:Int)(s:Bool):Qq (fun st=>Qbz n k p st.1 st.2) (s,0)=some (s||t.Cancel.any fun c=>c==p):=by
 rw [Qrs (body:=fun st=>Qbz n k p st.1 st.2) (l:=t.Cancel) (fun i (b:Bool)=>(b,(i:Int))) (fun _ b c=>.inl (b||c==p)) (fun b=>b) (fun i b c hi hx=>by
  show Qbz n k p b i=_
  unfold Qbz Qmk QfS
  rw [QB,ht,Qh,Qaa (by omega),cond_true,Qh,QB,hx,Qh,Qx hi (by unfold maxLen;omega)]
  cases b<;>rfl) (fun b=>by
  show Qbz n k p b t.Cancel.length=_
  unfold Qbz
  rw [QB,ht,Qh,Q9 (by omega),cond_false]) s (s0:=(s,0)) rfl]
 congr 1
 exact Qv6 _ _ _ _
def emB (n:Qm)(p:Nat):Bool:=n.Tasks.any fun t=>t.Cancel.any fun c=>c==(p:Int)
theorem Qzg {n:Qm}(h:Qnh n)(p:Nat):Qq (fun st=>QbA n p st.1 st.2) (false,0)=some (emB n p):=by
 rw [Qrs (body:=fun st=>QbA n p st.1 st.2) (l:=n.Tasks) (fun i (b:Bool)=>(b,(i:Int))) (fun _ b t=>.inl (b||t.Cancel.any fun c=>c==(p:Int))) (fun b=>b) (fun i b t hi hx=>by
  show QbA n p b i=_
  have ht:=(h.tk t (QX hx)).2.2.2
  unfold QbA
  rw [Qaa (by omega),cond_true,Qzf hx ht,Qh]
  unfold QiS
  rw [Qx hi (by have:=h.tl;unfold maxLen;omega)]
  rfl) (fun b=>by
  show QbA n p b n.Tasks.length=_
  unfold QbA
  rw [Q9 (by omega),cond_false]) false (s0:=(false,0)) rfl]
 congr 1
 exact Qv6 _ _ _ _
theorem Qvk {n:Qm}(h:Qnh n):QfT n=some (((List.range n.Places.length).filter (emB n)).map fun (i:Nat)=>(i:Int)):=by
 have hp:=h.pl
 unfold QfT
 rw [Qx0 n.Places.length (emB n) (fun i l hi hl=>by
  show QcR n i l=_
  unfold QcR
  rw [Qaa (by omega),cond_true,Qzg h,Qh]
  unfold QiT QfR
  rw [Qx hi (by unfold maxLen;omega)]
  cases emB n i with
  | false=>rfl
  | true=>rw [cond_true,Qjy (by simp;omega)];rfl) (fun l=>by
  show QcR n n.Places.length l=_
  unfold QcR
  rw [Q9 (by omega),cond_false])]
 rfl
theorem Qv7 {n:Qm}(h:Qnh n)(ht:n.Tasks.length≤8):QfT n=Qa8 n:=by
 rw [Qvk h,Qxo n h ht]
 congr 1
 refine QyN (fun x:Int=>x) ?_ (Qxn (QsC _)) fun x=>?_
 ·rw [Qm2]
  refine List.Pairwise.imp ?_ (List.Pairwise.filter _ List.pairwise_lt_range)
  intro a b hab
  show(a:Int)<(b:Int)
  omega
 rw [QxZ,(Qm8 _).mem_iff,Qgd,Qp]
 unfold Qr0 gdI Qfd
 simp only [Qgd,Qfh,List.mem_flatMap,emB,QiZ,beq_iff_eq,Qex,QfF,Qb2]
 constructor
 ·rintro ⟨i,⟨h1,t,h2,c,h3,rfl⟩,rfl⟩
  exact⟨⟨t,h2,h3⟩,by omega,by omega⟩
 rintro ⟨⟨t,h2,h3⟩,h4,h5⟩
 exact⟨x.toNat,⟨by omega,t,h2,x,h3,by omega⟩,by omega⟩
end Go.Proofs
