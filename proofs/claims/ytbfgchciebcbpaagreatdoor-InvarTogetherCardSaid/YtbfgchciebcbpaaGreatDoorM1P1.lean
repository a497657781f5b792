/- A part of the proof; what it holds is told at each theorem. -/
import Derived.Test.YtbfgchciebcbpaaGreatDoorM1XPlA
import Derived.Test.YtbfgchciebcbpaaGreatDoorM1V3
import Derived.Test.YtbfgchciebcbpaaGreatDoorM1T2
import Derived.KernelRfl
set_option linter.unusedVariables false
set_option linter.unusedSimpArgs false
set_option linter.unusedSectionVars false
set_option linter.deprecated false
namespace Go.Vm
open Go Go.RowKit
def Qg {α:Type}(o:Option α)(Q:α→Prop):Prop:=∃r,o=some r∧Q r
section
variable {α β σ ρ:Type}
theorem Qg.ok {a:α}{Q:α→Prop}(h:Q a):Qg (some a) Q:=⟨a,rfl,h⟩
theorem Qg.okT {a:α}:Qg (some a) fun _=>True:=⟨a,rfl,trivial⟩
theorem Qg.bind {o:Option α}{f:α→Option β}{P:α→Prop}{Q:β→Prop}(h:Qg o P)(k:∀x,P x→Qg (f x) Q):Qg (o.bind f) Q:=by
 obtain⟨x,rfl,hx⟩:=h
 exact k x hx
theorem Qg.bif {c:Bool}{a b:Option α}{Q:α→Prop}(h1:c=true→Qg a Q)(h2:c=false→Qg b Q):Qg (bif c then a else b) Q:=by
 cases c with
 | true=>exact h1 rfl
 | false=>exact h2 rfl
theorem Qg.chk {c:Bool}(h:c=true):Qg (chk c) fun _=>True:=⟨(),QtL h,trivial⟩
theorem Qg.idx {l:List α}{j:Int}(h0:0≤j)(h1:j<l.length):Qg (idx l j) fun x=>x∈l:=by
 rw [QsJ h0 h1]
 exact⟨_,rfl,Qkr _⟩
theorem Qg.get {l:List α}{j:Nat}(h1:j<l.length):Qg (l[j]?) fun x=>x∈l:=by
 rw [QN h1]
 exact⟨_,rfl,Qkr _⟩
theorem Qg.sidx {s:ByteArray}{j:Int}(h0:0≤j)(h1:j<s.size):Qg (sidx s j) fun _=>True:=by
 unfold Vm.sidx
 rw [if_pos h0]
 have:j.toNat<s.size:=by omega
 rw [getElem?_pos s j.toNat this]
 exact⟨_,rfl,trivial⟩
theorem Qg.mono {o:Option α}{P Q:α→Prop}(h:Qg o P)(k:∀x,P x→Q x):Qg o Q:=let ⟨r,h1,h2⟩:=h;⟨r,h1,k r h2⟩
theorem Qg.tot {o:Option α}{P:α→Prop}(h:Qg o P):∃r,o=some r:=let ⟨r,h1,_⟩:=h;⟨r,h1⟩
theorem Qg.self {o:Option α}{P:α→Prop}(h:Qg o P):Qg o fun x=>o=some x∧P x:=let ⟨r,h1,h2⟩:=h;⟨r,h1,h1,h2⟩
theorem Qg.up {body:σ→Option (σ⊕ρ)}(n:Nat)(ix:σ→Int)(J:σ→Prop){Q:ρ→Prop}{s0:σ}(h0:ix s0=0)(hJ:J s0)
  (step:∀(i:Nat) s,ix s=(i:Int)→i≤n→J s→Qg (body s) fun o=>(∀s',o=.inl s'→i<n∧ix s'=((i+1:Nat):Int)∧J s')∧∀r,o=.inr r→Q r):Qg (Qw body s0) Q:=by
 have key:∀k i s,i+k=n→ix s=(i:Int)→J s→∃r,Qw body s=some r∧Q r:=by
  intro k
  induction k with
  | zero=>
   intro i s hk hi hj
   obtain⟨o,ho,h1,h2⟩:=step i s hi (by omega) hj
   rw [QgD,ho]
   cases o with
   | inl s'=>have:=(h1 s' rfl).1;omega
   | inr r=>exact⟨r,rfl,h2 r rfl⟩
  | succ k ih=>
   intro i s hk hi hj
   obtain⟨o,ho,h1,h2⟩:=step i s hi (by omega) hj
   rw [QgD,ho]
   cases o with
   | inl s'=>
    obtain⟨_,h3,h4⟩:=h1 s' rfl
    exact ih (i+1) s' (by omega) h3 h4
   | inr r=>exact⟨r,rfl,h2 r rfl⟩
 exact key n 0 s0 (by omega) h0 hJ
theorem QG {s:σ}{n i:Nat}{ix:σ→Int}{J:σ→Prop}{Q:ρ→Prop}(h:i<n∧ix s=((i+1:Nat):Int)∧J s):
  (∀s',(Sum.inl s:σ⊕ρ)=.inl s'→i<n∧ix s'=((i+1:Nat):Int)∧J s')∧∀r,(Sum.inl s:σ⊕ρ)=.inr r→Q r:=
 ⟨fun s' e=>(by cases e;exact h),fun r e=>(by cases e)⟩
theorem Qr {r:ρ}{n i:Nat}{ix:σ→Int}{J:σ→Prop}{Q:ρ→Prop}(h:Q r):
  (∀s',(Sum.inr r:σ⊕ρ)=.inl s'→i<n∧ix s'=((i+1:Nat):Int)∧J s')∧∀r',(Sum.inr r:σ⊕ρ)=.inr r'→Q r':=
 ⟨fun s' e=>(by cases e),fun r' e=>(by cases e;exact h)⟩
end
def QJ {α:Type}(ok:α→Prop)(l:List α):Prop:=l.length≤maxLen∧∀x∈l,ok x
theorem QJ.drop {α:Type}{ok:α→Prop}{l:List α}(h:QJ ok l)(k:Nat):QJ ok (l.drop k):=⟨by have:=h.1;rw [Qks];omega,fun x hx=>h.2 x (QoQ hx)⟩
theorem QJ.take {α:Type}{ok:α→Prop}{l:List α}(h:QJ ok l)(k:Nat):QJ ok (l.take k):=⟨by have:=h.1;rw [Qg2];omega,fun x hx=>h.2 x (Qic hx)⟩
theorem QJ.nil {α:Type}{ok:α→Prop}:QJ ok ([]:List α):=⟨by simp,fun x h=>by cases h⟩
theorem QJ.app {α:Type}{ok:α→Prop}{l m:List α}(h:QJ ok l)(hm:QJ ok m)(hs:l.length+m.length≤maxLen):QJ ok (l++m):=⟨by simpa using hs,fun x hx=>by rcases Qib.1 hx with h1 | h1;exact h.2 x h1;exact hm.2 x h1⟩
def QdT (s:ByteArray):Prop:=s.size≤maxLen
theorem Qul {s:ByteArray}(h:Qfb s (⟨#[]⟩:ByteArray)=false):0<s.size:=by
 apply Nat.pos_of_ne_zero
 intro h0
 have:s=⟨#[]⟩:=by
  obtain⟨a⟩:=s
  have:a=#[]:=Array.eq_empty_of_size_eq_zero h0
  rw [this]
 subst this
 simp [Qfb]at h
theorem QiM {a b:Int}:0≤min2 a b↔0≤a∧0≤b:=by unfold min2;split<;>omega
theorem QiN {a b n:Int}:max2 a b<n↔a<n∧b<n:=by unfold max2;split<;>omega
theorem QhE {a b n:Int}:max2 a b≤n↔a≤n∧b≤n:=by unfold max2;split<;>omega
abbrev T0:=@Qg.bind
abbrev T1:=@Qg.bif
abbrev T2:=@Qg.ok
abbrev T3:=@Qg.okT
abbrev T4:=@Qg.idx
abbrev T5:=@Qg.chk
abbrev T6:=@Qg.mono
end Go.Vm
namespace Go.Vm
open Go Go.RowKit
def Asc (l:List (Int×Int)):Prop:=l.Pairwise fun p q=>p.1<q.1
section
variable {ρ:Type}{g:Int→Int→Int}{stop:Int→Bool}{q:Option ρ}{body:List (Int×Int)→Int×Int→Option (List (Int×Int)⊕ρ)}
end
def Rt (l:List (Int×Int)):Prop:=Asc l∧∀p∈l,0≤p.1∧1≤p.2∧p.2≤1048576
theorem Rt.nil : Rt []:=⟨List.Pairwise.nil,fun p h=>by cases h⟩
end Go.Vm
noncomputable section
namespace Go.Proofs
open Go Go.RowKit Go.Vm
inductive QbV : Qj→Prop where
 | mk (e:Qj):e.Kids.length≤maxLen→(∀k∈e.Kids,QbV k)→QbV e
theorem QcK {e:Qj}(h:QbV e):QJ QbV e.Kids:=by
 cases h with
 | mk _ h1 h2=>exact⟨h1,h2⟩
theorem QqN {e k:Qj}(h:k∈e.Kids):SizeOf.sizeOf k<SizeOf.sizeOf e:=by
 obtain⟨a,b,l⟩:=e
 have:=List.sizeOf_lt_of_mem h
 simp only [Qj.mk.sizeOf_spec]at *
 omega
theorem Qj.pos (e:Qj):0<SizeOf.sizeOf e:=by
 obtain⟨a,b,l⟩:=e
 simp only [Qj.mk.sizeOf_spec];omega
inductive POk (v:Int):Qj→Prop where
 | mk (e:Qj):(e.Kind=1∨e.Kind=2∨e.Kind=3∨e.Kind=4∨e.Kind=5∨e.Kind=6)→(e.Kind=2→0≤e.Num∧e.Num<v)→(e.Kind=3∨e.Kind=4→e.Kids.length=1)→(e.Kind=5→e.Kids.length=2)→(e.Kind=6→e.Kids.length=3)→(∀k∈e.Kids,POk v k)→POk v e
def QbZ (x:QD):Prop:=QdT x.Name∧True∧True∧True∧(QJ QdT) x.Names∧True∧True
def Qbi (x:QB):Prop:=QdT x.Name∧True∧(QJ (fun _=>True)) x.First
def Qcj (x:Q6):Prop:=QdT x.Name∧True
def Qh7 (x:QM):Prop:=True∧QbV x.Expr
def Q5 (x:Qu):Prop:=QdT x.Name∧(QJ Qcj) x.Vars∧QbV x.Guard∧True∧True∧(QJ Qh7) x.Ins∧(QJ Qh7) x.Outs∧(QJ (fun _=>True)) x.Cancel∧True∧True
def QA (x:Qm):Prop:=(QJ QbZ) x.Colours∧(QJ Qbi) x.Places∧(QJ Q5) x.Tasks∧True∧True
def QrU (x:Qcu):Prop:=(QJ QbZ) x.all∧(QJ (fun _=>True)) x.sizes∧True
theorem QqO (v1:Qm)(h_v1:QA v1):Qg (Qih v1) fun r=>True:=by
 unfold Qih
 exact T3
theorem Qa6 (l1:(List QB))(k2:Int)(h_l1:(QJ Qbi) l1):Qg (Q8 l1 k2) fun r=>r=true→0≤k2∧k2<l1.length:=by
 unfold Q8
 exact T2 (by first | (intro hr;first | (cases hr;done) | omega | ((try simp only [Qt,QbJ,Qd1,QdF,Qh9,QX,Qcs,beq_iff_eq,bne_iff_ne,ne_eq,QlI,QlH,QiP,QjA,Qjz,Qks,Qg2,Qf2,QiM,QiN,QhE]at *);omega)) | ((try simp only [Qt,QbJ,Qd1,QdF,Qh9,QX,Qcs,beq_iff_eq,bne_iff_ne,ne_eq,QlI,QlH,QiP,QjA,Qjz,Qks,Qg2,Qf2,QiM,QiN,QhE]at *);omega) | simp_all)
theorem QqP (v1:Qm)(h_v1:QA v1):Qg (Qii v1) fun r=>True:=by
 unfold Qii
 refine T0 (P:=fun _=>True) ?_ (fun x_1 hv2=>?_)
 ·unfold Qlc
  refine T0 (Qa6 v1.Places v1.From (h_v1.2.1)) (fun x_3 hv4=>?_)
  refine T1 (fun hc5=>?_) (fun hc5=>?_)
  ·refine T0 (Qa6 v1.Places v1.To (h_v1.2.1)) (fun x_6 hv7=>?_)
   exact T3
  exact T3
 unfold Qfi
 exact T3
theorem QqQ (v1:Qm)(h_v1:QA v1):Qg (Qij v1) fun r=>True:=by
 unfold Qij
 exact T3
theorem QqR (v1:Qm)(v2:Int)(v3:Int)(v4:Int)(h_v1:QA v1):Qg (Qik v1 v2 v3 v4) fun r=>True:=by
 unfold Qik
 refine T0 (QqO v1 (h_v1)) (fun x_1 hv2=>?_)
 refine T1 (fun hc3=>?_) (fun hc3=>?_)
 ·exact T3
 refine T0 (QqP v1 (h_v1)) (fun x_4 hv5=>?_)
 refine T1 (fun hc6=>?_) (fun hc6=>?_)
 ·exact T3
 refine T0 (QqQ v1 (h_v1)) (fun x_7 hv8=>?_)
 refine T1 (fun hc9=>?_) (fun hc9=>?_)
 ·exact T3
 exact T3
theorem QqS (lo1:Int)(hi2:Int)  : Qg (Qil lo1 hi2) fun r=>True:=by
 unfold Qil
 refine T1 (fun hc1=>?_) (fun hc1=>?_)
 ·exact T3
 exact T3
theorem Qko (c1:Int)  : Qg (QcN c1) fun r=>True:=by
 unfold QcN
 exact T3
theorem Qjd (s1:ByteArray)(h_s1:QdT s1):Qg (Qd0 s1) fun r=>True:=by
 unfold Qd0
 refine T0 (P:=fun _=>True) ?_ (fun x_1 hv2=>?_)
 ·unfold Qld
  refine T1 (fun hc3=>?_) (fun hc3=>?_)
  ·exact T3
  have hshc3:=Qul hc3
  refine T1 (fun hc4=>?_) (fun hc4=>?_)
  ·exact T3
  refine T0 (Qg.sidx (by omega) (by omega)) (fun c_5 hv6=>?_)
  refine T0 (Qko c_5 ) (fun x_7 hv8=>?_)
  exact T3
 unfold Qfn
 refine T1 (fun hc9=>?_) (fun hc9=>?_)
 ·exact T3
 refine T0 (Qg.up (s1.size) (fun st=>st) (fun _=>True) (Q:=fun q=>True) rfl trivial (fun i11 st hi12 hn13 hj14=>?_)) (fun q15 hq16=>?_)
 ·obtain⟨x_10,hst⟩:∃y,y=st:=⟨_,rfl⟩
  subst hst
  replace hi12:x_10=(i11:Int):=hi12
  show Qg (Qfk s1 x_10) _
  unfold Qfk
  refine T1 (fun hc17=>?_) (fun hc17=>?_)
  ·refine T0 (Qg.sidx (by omega) (by simp_all)) (fun c_18 hv19=>?_)
   refine T0 (P:=fun _=>True) ?_ (fun x_20 hv21=>?_)
   ·unfold Qle
    refine T0 (Qko c_18 ) (fun x_22 hv23=>?_)
    refine T1 (fun hc24=>?_) (fun hc24=>?_)
    ·refine T1 (fun hc25=>?_) (fun hc25=>?_)
     ·exact T3
     refine T1 (fun hc26=>?_) (fun hc26=>?_)
     ·exact T3
     exact T3
    exact T3
   unfold Qfj
   refine T1 (fun hc27=>?_) (fun hc27=>?_)
   ·exact T2 (Qr trivial)
   exact T2 (QG ⟨(by simp_all),by subst hi12;exact QL (by simp_all) h_s1,trivial⟩)
  exact T2 (Qr trivial)
 rcases q15 with q15 | q15
 ·show Qg (Qfl) _
  unfold Qfl
  exact T3
 show Qg (Qfm) _
 unfold Qfm
 exact T3
theorem Qp3 (l1:(List ByteArray))(h_l1:(QJ QdT) l1):Qg (Qhq l1) fun r=>True:=by
 unfold Qhq
 refine T0 (Qg.up (l1.length) (fun st=>st.1) (fun _=>True) (Q:=fun q=>True) rfl trivial (fun i3 st hi4 hn5 hj6=>?_)) (fun q7 hq8=>?_)
 ·obtain⟨x_1,m_2⟩:=st
  replace hi4:x_1=(i3:Int):=hi4
  show Qg (QeE l1 x_1 m_2) _
  unfold QeE
  refine T1 (fun hc9=>?_) (fun hc9=>?_)
  ·refine T0 (T4 (by omega) (by simp_all)) (fun e_10 hv11=>?_)
   refine T0 (P:=fun _=>True) ?_ (fun x_12 hv13=>?_)
   ·unfold Qkg
    refine T0 (Qjd e_10 (((h_l1).2 e_10 hv11))) (fun x_14 hv15=>?_)
    refine T1 (fun hc16=>?_) (fun hc16=>?_)
    ·exact T3
    exact T3
   unfold QeD
   refine T1 (fun hc17=>?_) (fun hc17=>?_)
   ·exact T2 (Qr trivial)
   exact T2 (QG ⟨(by simp_all),by subst hi4;exact QL (by simp_all) (h_l1).1,trivial⟩)
  exact T2 (Qr trivial)
 rcases q7 with q7 | q7
 ·show Qg (QeF) _
  unfold QeF
  exact T3
 show Qg (QeG) _
 unfold QeG
 exact T3
theorem QqT (c1:QD)(ahead2:(List Int))(h_c1:QbZ c1)(h_ahead2:(QJ (fun _=>True)) ahead2):Qg (Qim c1 ahead2) fun r=>True:=by
 unfold Qim
 refine T1 (fun hc1=>?_) (fun hc1=>?_)
 ·refine T0 (QqS c1.Lo c1.Hi ) (fun x_2 hv3=>?_)
  exact T3
 refine T1 (fun hc4=>?_) (fun hc4=>?_)
 ·refine T0 (Qp3 c1.Names (h_c1.2.2.2.2.1)) (fun x_5 hv6=>?_)
  refine T1 (fun hc7=>?_) (fun hc7=>?_)
  ·exact T3
  unfold Qbt
  exact T3
 refine T1 (fun hc8=>?_) (fun hc8=>?_)
 ·refine T1 (fun hc9=>?_) (fun hc9=>?_)
  ·refine T0 (T4 (by(try simp only [Qt,QbJ,Qd1,QdF,Qh9,QX,Qcs,beq_iff_eq,bne_iff_ne,ne_eq,QlI,QlH,QiP,QjA,Qjz,Qks,Qg2,Qf2,QiM,QiN,QhE]at *);omega) (by(try simp only [Qt,QbJ,Qd1,QdF,Qh9,QX,Qcs,beq_iff_eq,bne_iff_ne,ne_eq,QlI,QlH,QiP,QjA,Qjz,Qks,Qg2,Qf2,QiM,QiN,QhE]at *);omega)) (fun e_10 hv11=>?_)
   refine T0 (T4 (by(try simp only [Qt,QbJ,Qd1,QdF,Qh9,QX,Qcs,beq_iff_eq,bne_iff_ne,ne_eq,QlI,QlH,QiP,QjA,Qjz,Qks,Qg2,Qf2,QiM,QiN,QhE]at *);omega) (by(try simp only [Qt,QbJ,Qd1,QdF,Qh9,QX,Qcs,beq_iff_eq,bne_iff_ne,ne_eq,QlI,QlH,QiP,QjA,Qjz,Qks,Qg2,Qf2,QiM,QiN,QhE]at *);omega)) (fun e_12 hv13=>?_)
   exact T3
  unfold Qbt
  exact T3
 unfold Qbt
 exact T3
theorem Qls (l1:(List QD))(h_l1:(QJ QbZ) l1):Qg (QeX l1) fun r=>((QJ (fun _=>True)) r.1∧True)∧(r.2=true→r.1.length=l1.length∧∀x∈r.1,1≤x∧x≤1024):=by
 unfold QeX
 refine T1 (fun hc=>T2 ⟨⟨QJ.nil,trivial⟩,fun h=>by cases h⟩) (fun hc=>?_)
 have hl:l1.length≤32:=by simp only [Qcs]at hc;omega
 refine T0 (Qg.up l1.length (fun st=>st.1) (fun st=>(st.2.2.length:Int)=st.1∧∀x∈st.2.2,1≤x∧x≤1024) (Q:=fun q=>∀l,q=.inr l→l.length=l1.length∧∀x∈l,1≤x∧x≤1024) rfl ⟨rfl,fun x h=>(by cases h)⟩ (fun i st hi hn hj=>?_)) (fun q hq=>?_)
 ·obtain⟨x,m,l⟩:=st
  replace hi:x=(i:Int):=hi
  replace hj:(l.length:Int)=x∧∀x∈l,1≤x∧x≤1024:=hj
  obtain⟨hj,hj2⟩:=hj
  show Qg (QeI l1 x m l) _
  unfold QeI
  refine T1 (fun hc2=>?_) (fun hc2=>?_)
  ·simp only [QX]at hc2
   refine T0 (T4 (by omega) (by omega)) fun e he=>?_
   refine T0 (QqT e l (h_l1.2 e he) ⟨by unfold maxLen;omega,fun _ _=>trivial⟩) fun y _=>?_
   refine T0 (P:=fun z=>z=false→1≤y∧y≤1024) ?_ fun z hz=>?_
   ·unfold Qkh
    refine T0 (Qjd e.Name (h_l1.2 e he).1) fun z _=>?_
    refine T1 (fun _=>T2 (fun h=>by cases h)) fun _=>T1 (fun _=>T2 (fun h=>by cases h)) fun _=>T1 (fun _=>T2 (fun h=>by cases h)) fun h1=>T2 fun h2=>?_
    simp only [Qcs]at h1 h2
    omega
   unfold QeH
   refine T1 (fun _=>T2 (Qr fun l h=>by cases h)) fun hz0=>?_
   refine T0 (T5 (by simp;omega)) fun _ _=>?_
   exact T2 (QG ⟨by omega,by subst hi;exact QL (by omega) (by unfold maxLen;omega:l1.length≤maxLen),by simp only [QiP,QjA];subst hi;rw [QL (show i<l1.length by omega) (by unfold maxLen;omega)];omega,fun u hu=>by
    rcases Qib.1 hu with hu | hu
    ·exact hj2 u hu
    simp at hu;subst hu;exact hz hz0⟩)
  simp only [Qcs]at hc2
  exact T2 (Qr fun l' h=>by cases h;exact⟨by omega,hj2⟩)
 rcases q with q | q
 ·exact T2 ⟨⟨QJ.nil,trivial⟩,fun h=>by cases h⟩
 have:=hq q rfl
 exact T2 ⟨⟨⟨by show q.length≤maxLen;unfold maxLen;omega,fun _ _=>trivial⟩,trivial⟩,fun _=>this⟩
theorem Qp4 (l1:(List QD))(h_l1:(QJ QbZ) l1):Qg (Qhr l1) fun r=>True:=by
 unfold Qhr
 refine T0 (Qls l1 (h_l1)) (fun x_1 hv2=>?_)
 exact T3
theorem QmT (v1:Qm)(v2:Int)(h_v1:QA v1)(hp0:0≤v2)(hp1:v2<v1.Colours.length):Qg (QdK v1 v2) fun r=>True:=by
 have hl:=h_v1.1.1
 unfold maxLen at hl
 unfold QdK
 rw [Qci (show -9223372036854775808≤v2+1∧v2+1≤9223372036854775807 by omega)]
 refine T0 (T5 (by simp only [Qt,QX];omega)) fun _ _=>?_
 exact T0 (Qp4 _ ((h_v1.1.drop _).take _)) fun x _=>T3
def QqU : List ByteArray:=(QfM).getD []
set_option maxRecDepth 100000 in
theorem Qu0 : QfM=some QqU:=by kernel_rfl
set_option maxRecDepth 100000 in
theorem Qs7 : (decide (QqU.length≤1000)&&QqU.all fun s=>decide (s.size≤1000))=true:=by kernel_rfl
theorem QqV : Qg (QfM) fun r=>QJ QdT r:=by
 have h:=Qs7
 rw [Qt,decide_eq_true_iff,QO]at h
 refine⟨QqU,Qu0,by unfold maxLen;omega,fun x hx=>?_⟩
 have:=h.2 x hx
 rw [decide_eq_true_iff]at this
 unfold QdT maxLen;omega
theorem Qje (s1:(List ByteArray))(v2:ByteArray)(h_s1:(QJ QdT) s1)(h_v2:QdT v2):Qg (Qbg s1 v2) fun r=>True:=by
 unfold Qbg
 refine T0 (Qg.up (s1.length) (fun st=>st) (fun _=>True) (Q:=fun q=>True) rfl trivial (fun i2 st hi3 hn4 hj5=>?_)) (fun q6 hq7=>?_)
 ·obtain⟨x_1,hst⟩:∃y,y=st:=⟨_,rfl⟩
  subst hst
  replace hi3:x_1=(i2:Int):=hi3
  show Qg (QaZ s1 v2 x_1) _
  unfold QaZ
  refine T1 (fun hc8=>?_) (fun hc8=>?_)
  ·refine T0 (T4 (by omega) (by simp_all)) (fun e_9 hv10=>?_)
   refine T1 (fun hc11=>?_) (fun hc11=>?_)
   ·exact T2 (Qr trivial)
   exact T2 (QG ⟨(by simp_all),by subst hi3;exact QL (by simp_all) (h_s1).1,trivial⟩)
  exact T2 (Qr trivial)
 rcases q6 with q6 | q6
 ·show Qg (Qa0 q6) _
  unfold Qa0
  exact T3
 show Qg (Qa1) _
 unfold Qa1
 exact T3
theorem Qh8 (s1:(List ByteArray))(v2:ByteArray)(h_s1:(QJ QdT) s1)(h_v2:QdT v2):Qg (Qa2 s1 v2) fun r=>True:=by
 unfold Qa2
 refine T0 (Qje s1 v2 (h_s1) (h_v2)) (fun x_1 hv2=>?_)
 exact T3
theorem Qru (s1:ByteArray)(h_s1:QdT s1):Qg (Qi8 s1) fun r=>True:=by
 unfold Qi8
 refine T0 (QqV  ) (fun x_1 hv2=>?_)
 refine T0 (Qh8 x_1 s1 (hv2) (h_s1)) (fun x_3 hv4=>?_)
 exact T3
theorem Qe3 (s1:ByteArray)(h_s1:QdT s1):Qg (QcJ s1) fun r=>True:=by
 unfold QcJ
 refine T0 (P:=fun _=>True) ?_ (fun x_1 hv2=>?_)
 ·unfold Ql5
  refine T0 (Qjd s1 (h_s1)) (fun x_3 hv4=>?_)
  refine T1 (fun hc5=>?_) (fun hc5=>?_)
  ·refine T0 (Qru s1 (h_s1)) (fun x_6 hv7=>?_)
   exact T3
  exact T3
 unfold Qgm
 exact T3
theorem QlB (s1:ByteArray)(h_s1:QdT s1):Qg (QcO s1) fun r=>True:=by
 unfold QcO
 refine T0 (Qe3 s1 (h_s1)) (fun x_1 hv2=>?_)
 exact T3
theorem QhQ (s1:(List ByteArray))(h_s1:(QJ QdT) s1):Qg (QaU s1) fun r=>True:=by
 unfold QaU
 refine T0 (Qg.up (s1.length) (fun st=>st) (fun _=>True) (Q:=fun q=>True) rfl trivial (fun i2 st hi3 hn4 hj5=>?_)) (fun q6 hq7=>?_)
 ·obtain⟨x_1,hst⟩:∃y,y=st:=⟨_,rfl⟩
  subst hst
  replace hi3:x_1=(i2:Int):=hi3
  show Qg (Qax s1 x_1) _
  unfold Qax
  refine T1 (fun hc8=>?_) (fun hc8=>?_)
  ·refine T0 (T4 (by omega) (by simp_all)) (fun e_9 hv10=>?_)
   refine T0 (QlB e_9 (((h_s1).2 e_9 hv10))) (fun x_11 hv12=>?_)
   refine T1 (fun hc13=>?_) (fun hc13=>?_)
   ·exact T2 (Qr trivial)
   exact T2 (QG ⟨(by simp_all),by subst hi3;exact QL (by simp_all) (h_s1).1,trivial⟩)
  exact T2 (Qr trivial)
 rcases q6 with q6 | q6
 ·show Qg (Qay q6) _
  unfold Qay
  exact T3
 show Qg (Qaz) _
 unfold Qaz
 exact T3
theorem QgB (s1:(List ByteArray))(h_s1:(QJ QdT) s1):Qg (QaA s1) fun r=>True:=by
 unfold QaA
 refine T0 (QhQ s1 (h_s1)) (fun x_1 hv2=>?_)
 exact T3
theorem QmU (v1:QD)(h_v1:QbZ v1):Qg (QdL v1) fun r=>True:=by
 unfold QdL
 refine T0 (P:=fun _=>True) ?_ (fun x_1 hv2=>?_)
 ·unfold Qh6
  refine T0 (Qe3 v1.Name (h_v1.1)) (fun x_3 hv4=>?_)
  refine T1 (fun hc5=>?_) (fun hc5=>?_)
  ·refine T1 (fun hc6=>?_) (fun hc6=>?_)
   ·exact T3
   refine T0 (QgB v1.Names (h_v1.2.2.2.2.1)) (fun x_7 hv8=>?_)
   exact T3
  exact T3
 unfold Qcx
 exact T3
theorem Qoy (v1:Qm)(v2:Int)(v3:Int)(v4:QD)(v5:Int)(h_v1:QA v1)(h_v4:QbZ v4)(hp0:0≤v2)(hp1:v2<v1.Colours.length):Qg (Qfo v1 v2 v3 v4 v5) fun r=>True:=by
 unfold Qfo
 refine T0 (QmT v1 v2 (h_v1) (by omega) (by omega)) (fun x_1 hv2=>?_)
 refine T1 (fun hc3=>?_) (fun hc3=>?_)
 ·exact T3
 refine T0 (QmU v4 (h_v4)) (fun x_4 hv5=>?_)
 refine T1 (fun hc6=>?_) (fun hc6=>?_)
 ·exact T3
 exact T3
theorem QnV (k1:Int)(c2:QD)(v3:Qm)(h_c2:QbZ c2)(h_v3:QA v3)(hp0:0≤k1)(hp1:k1<v3.Colours.length):Qg (QeJ k1 c2 v3) fun r=>True:=by
 unfold QeJ
 refine T0 (Qoy v3 k1 8 c2 8 (h_v3) (h_c2) (by omega) (by omega)) (fun x_1 hv2=>?_)
 exact T3
theorem QkI (l1:(List QD))(v2:Qm)(h_l1:(QJ QbZ) l1)(h_v2:QA v2)(hp0:l1.length≤v2.Colours.length):Qg (Qb9 l1 v2) fun r=>True:=by
 unfold Qb9
 refine T0 (Qg.up (l1.length) (fun st=>st) (fun _=>True) (Q:=fun q=>True) rfl trivial (fun i2 st hi3 hn4 hj5=>?_)) (fun q6 hq7=>?_)
 ·obtain⟨x_1,hst⟩:∃y,y=st:=⟨_,rfl⟩
  subst hst
  replace hi3:x_1=(i2:Int):=hi3
  show Qg (Qbo l1 v2 x_1) _
  unfold Qbo
  refine T1 (fun hc8=>?_) (fun hc8=>?_)
  ·refine T0 (T4 (by omega) (by simp_all)) (fun e_9 hv10=>?_)
   refine T0 (QnV x_1 e_9 v2 (((h_l1).2 e_9 hv10)) (h_v2) (by omega) (by simp_all;omega)) (fun x_11 hv12=>?_)
   refine T1 (fun hc13=>?_) (fun hc13=>?_)
   ·exact T2 (Qr trivial)
   exact T2 (QG ⟨(by simp_all),by subst hi3;exact QL (by simp_all) (h_l1).1,trivial⟩)
  exact T2 (Qr trivial)
 rcases q6 with q6 | q6
 ·show Qg (Qbp q6.1 q6.2) _
  unfold Qbp
  exact T3
 show Qg (Qbq) _
 unfold Qbq
 exact T3
theorem Qkp (n1:Qm)(h_n1:QA n1):Qg (Qef n1) fun r=>True:=by
 unfold Qef
 refine T0 (QkI n1.Colours n1 (h_n1.1) (h_n1) (by omega)) (fun x_1 hv2=>?_)
 exact T3
theorem Qph (v1:QB)(h_v1:Qbi v1):Qg (Qgn v1) fun r=>True:=by
 unfold Qgn
 refine T0 (Qe3 v1.Name (h_v1.1)) (fun x_1 hv2=>?_)
 exact T3
theorem Qpi (p1:QB)(v2:QB)(h_p1:Qbi p1)(h_v2:Qbi v2):Qg (Qgo p1 v2) fun r=>True:=by
 unfold Qgo
 exact T3
theorem QfE (s1:(List QB))(v2:QB)(h_s1:(QJ Qbi) s1)(h_v2:Qbi v2):Qg (Qap s1 v2) fun r=>True:=by
 unfold Qap
 refine T0 (Qg.up (s1.length) (fun st=>st) (fun _=>True) (Q:=fun q=>True) rfl trivial (fun i2 st hi3 hn4 hj5=>?_)) (fun q6 hq7=>?_)
 ·obtain⟨x_1,hst⟩:∃y,y=st:=⟨_,rfl⟩
  subst hst
  replace hi3:x_1=(i2:Int):=hi3
  show Qg (Qad s1 v2 x_1) _
  unfold Qad
  refine T1 (fun hc8=>?_) (fun hc8=>?_)
  ·refine T0 (T4 (by omega) (by simp_all)) (fun e_9 hv10=>?_)
   refine T0 (Qpi e_9 v2 (((h_s1).2 e_9 hv10)) (h_v2)) (fun x_11 hv12=>?_)
   refine T1 (fun hc13=>?_) (fun hc13=>?_)
   ·exact T2 (Qr trivial)
   exact T2 (QG ⟨(by simp_all),by subst hi3;exact QL (by simp_all) (h_s1).1,trivial⟩)
  exact T2 (Qr trivial)
 rcases q6 with q6 | q6
 ·show Qg (Qae q6) _
  unfold Qae
  exact T3
 show Qg (Qaf) _
 unfold Qaf
 exact T3
theorem QeA (s1:(List QB))(v2:QB)(h_s1:(QJ Qbi) s1)(h_v2:Qbi v2):Qg (Qag s1 v2) fun r=>True:=by
 unfold Qag
 refine T0 (QfE s1 v2 (h_s1) (h_v2)) (fun x_1 hv2=>?_)
 exact T3
theorem Qpj (v1:Qm)(v2:Int)(v3:QB)(h_v1:QA v1)(h_v3:Qbi v3)(hp0:0≤v2)(hp1:v2<v1.Places.length):Qg (Qgp v1 v2 v3) fun r=>True:=by
 unfold Qgp
 refine T0 (T5 (by simp_all;omega)) (fun _ _=>?_)
 refine T0 (QeA ((v1.Places.drop 0).take (v2.toNat-0)) v3 (((h_v1.2.1).drop _).take _) (h_v3)) (fun x_1 hv2=>?_)
 exact T3
theorem QfS (l1:(List QD))(k2:Int)(h_l1:(QJ QbZ) l1):Qg (Qba l1 k2) fun r=>True:=by
 unfold Qba
 exact T3
theorem Qpk (v1:Qm)(v2:QB)(h_v1:QA v1)(h_v2:Qbi v2):Qg (Qgq v1 v2) fun r=>True:=by
 unfold Qgq
 refine T0 (QfS v1.Colours v2.Colour (h_v1.1)) (fun x_1 hv2=>?_)
 exact T3
theorem QrV (b1:(List (Int×Int)))(h_b1:(QJ (fun _=>True)) b1):Qg (Qh2 b1) fun r=>True:=by
 unfold Qh2
 refine T0 (Qg.up (b1.length) (fun st=>st.2) (fun _=>True) (Q:=fun q=>True) rfl trivial (fun i3 st hi4 hn5 hj6=>?_)) (fun q7 hq8=>?_)
 ·obtain⟨last_1,x_2⟩:=st
  replace hi4:x_2=(i3:Int):=hi4
  show Qg (Qhc b1 last_1 x_2) _
  unfold Qhc
  refine T1 (fun hc9=>?_) (fun hc9=>?_)
  ·refine T0 (T4 (by omega) (by simp_all)) (fun e_10 hv11=>?_)
   refine T1 (fun hc12=>?_) (fun hc12=>?_)
   ·exact T2 (Qr trivial)
   exact T2 (QG ⟨(by simp_all),by subst hi4;exact QL (by simp_all) (h_b1).1,trivial⟩)
  exact T2 (Qr trivial)
 rcases q7 with q7 | q7
 ·show Qg (Qhd) _
  unfold Qhd
  exact T3
 show Qg (Qhe) _
 unfold Qhe
 exact T3
theorem Qpl (v1:QB)(h_v1:Qbi v1):Qg (Qgr v1) fun r=>True:=by
 unfold Qgr
 refine T0 (QrV v1.First (h_v1.2.2)) (fun x_1 hv2=>?_)
 exact T3
theorem QrW (l1:(List QD))(k2:Int)(h_l1:(QJ QbZ) l1):Qg (QjI l1 k2) fun r=>(True∧QrU r.2)∧(r.1=true→(0≤k2∧k2<r.2.sizes.length)∧r.2.k=k2∧r.2.all.length=r.2.sizes.length∧∀x∈r.2.sizes,1≤x∧x≤1024):=by
 unfold QjI
 refine T0 (Qls l1 h_l1) fun x hx=>?_
 refine T1 (fun _=>T2 ⟨⟨trivial,QJ.nil,QJ.nil,trivial⟩,fun h=>by cases h⟩) fun hc=>?_
 simp only [Qd1,Qh9,Qcs]at hc
 have:=hx.2 hc.1
 exact T2 ⟨⟨trivial,h_l1,hx.1.1,trivial⟩,fun _=>⟨⟨by omega,by show k2<(x.1.length:Int);omega⟩,rfl,this.1.symm,this.2⟩⟩
theorem Qma (l1:(List QD))(k2:Int)(h_l1:(QJ QbZ) l1):Qg (QfN l1 k2) fun r=>0≤r∧r≤1024:=by
 unfold QfN
 refine T0 (QrW l1 k2 h_l1) (fun x hx=>?_)
 refine T1 (fun hc=>T2 (by omega)) (fun hc=>?_)
 have h:=hx.2 (by simpa using hc)
 exact T0 (T4 (by omega) (by omega)) fun e he=>T2 (by have:=h.2.2.2 e he;omega)
theorem QnW (row1:(Int×Int))(v2:Int)  : Qg (QeK row1 v2) fun r=>True:=by
 unfold QeK
 exact T3
theorem QhR (s1:(List (Int×Int)))(v2:Int)(h_s1:(QJ (fun _=>True)) s1):Qg (QaV s1 v2) fun r=>True:=by
 unfold QaV
 refine T0 (Qg.up (s1.length) (fun st=>st) (fun _=>True) (Q:=fun q=>True) rfl trivial (fun i2 st hi3 hn4 hj5=>?_)) (fun q6 hq7=>?_)
 ·obtain⟨x_1,hst⟩:∃y,y=st:=⟨_,rfl⟩
  subst hst
  replace hi3:x_1=(i2:Int):=hi3
  show Qg (QaB s1 v2 x_1) _
  unfold QaB
  refine T1 (fun hc8=>?_) (fun hc8=>?_)
  ·refine T0 (T4 (by omega) (by simp_all)) (fun e_9 hv10=>?_)
   refine T0 (QnW e_9 v2 ) (fun x_11 hv12=>?_)
   refine T1 (fun hc13=>?_) (fun hc13=>?_)
   ·exact T2 (Qr trivial)
   exact T2 (QG ⟨(by simp_all),by subst hi3;exact QL (by simp_all) (h_s1).1,trivial⟩)
  exact T2 (Qr trivial)
 rcases q6 with q6 | q6
 ·show Qg (QaC q6) _
  unfold QaC
  exact T3
 show Qg (QaD) _
 unfold QaD
 exact T3
theorem QgC (s1:(List (Int×Int)))(v2:Int)(h_s1:(QJ (fun _=>True)) s1):Qg (QaE s1 v2) fun r=>True:=by
 unfold QaE
 refine T0 (QhR s1 v2 (h_s1)) (fun x_1 hv2=>?_)
 exact T3
theorem Qpm (v1:Qm)(v2:QB)(h_v1:QA v1)(h_v2:Qbi v2):Qg (Qgs v1 v2) fun r=>True:=by
 unfold Qgs
 refine T0 (Qma v1.Colours v2.Colour (h_v1.1)) (fun x_1 hv2=>?_)
 refine T0 (QgC v2.First x_1 (h_v2.2.2)) (fun x_3 hv4=>?_)
 exact T3
theorem Qoz (v1:QB)(v2:Int)(v3:Qm)(v4:Int)(v5:Int)(v6:Int)(v7:Int)(v8:Int)(h_v1:Qbi v1)(h_v3:QA v3)(hp0:0≤v4)(hp1:v4<v3.Places.length):Qg (Qfp v1 v2 v3 v4 v5 v6 v7 v8) fun r=>True:=by
 unfold Qfp
 refine T0 (Qph v1 (h_v1)) (fun x_1 hv2=>?_)
 refine T1 (fun hc3=>?_) (fun hc3=>?_)
 ·exact T3
 refine T0 (Qpj v3 v4 v1 (h_v3) (h_v1) (by omega) (by omega)) (fun x_4 hv5=>?_)
 refine T1 (fun hc6=>?_) (fun hc6=>?_)
 ·exact T3
 refine T0 (Qpk v3 v1 (h_v3) (h_v1)) (fun x_7 hv8=>?_)
 refine T1 (fun hc9=>?_) (fun hc9=>?_)
 ·exact T3
 refine T0 (Qpl v1 (h_v1)) (fun x_10 hv11=>?_)
 refine T1 (fun hc12=>?_) (fun hc12=>?_)
 ·exact T3
 refine T0 (Qpm v3 v1 (h_v3) (h_v1)) (fun x_13 hv14=>?_)
 refine T1 (fun hc15=>?_) (fun hc15=>?_)
 ·exact T3
 exact T3
theorem QqW (n1:Qm)(k2:Int)(h_n1:QA n1):Qg (Qin n1 k2) fun r=>True:=by
 unfold Qin
 refine T0 (Qa6 n1.Places k2 (h_n1.2.1)) (fun x_1 hv2=>?_)
 refine T1 (fun hc3=>?_) (fun hc3=>?_)
 ·exact T3
 refine T0 (T4 (by simp_all) (by simp_all)) (fun e_4 hv5=>?_)
 refine T0 (Qoz e_4 1 n1 k2 5 3 1 8 (((h_n1.2.1).2 e_4 hv5)) (h_n1) (by simp_all) (by simp_all)) (fun x_6 hv7=>?_)
 exact T3
theorem QqX (k1:Int)(p2:QB)(v3:Qm)(h_p2:Qbi p2)(h_v3:QA v3):Qg (Qio k1 p2 v3) fun r=>True:=by
 unfold Qio
 refine T0 (QqW v3 k1 (h_v3)) (fun x_1 hv2=>?_)
 exact T3
theorem Qlt (l1:(List QB))(v2:Qm)(h_l1:(QJ Qbi) l1)(h_v2:QA v2):Qg (Qcy l1 v2) fun r=>True:=by
 unfold Qcy
 refine T0 (Qg.up (l1.length) (fun st=>st) (fun _=>True) (Q:=fun q=>True) rfl trivial (fun i2 st hi3 hn4 hj5=>?_)) (fun q6 hq7=>?_)
 ·obtain⟨x_1,hst⟩:∃y,y=st:=⟨_,rfl⟩
  subst hst
  replace hi3:x_1=(i2:Int):=hi3
  show Qg (QbB l1 v2 x_1) _
  unfold QbB
  refine T1 (fun hc8=>?_) (fun hc8=>?_)
  ·refine T0 (T4 (by omega) (by simp_all)) (fun e_9 hv10=>?_)
   refine T0 (QqX x_1 e_9 v2 (((h_l1).2 e_9 hv10)) (h_v2)) (fun x_11 hv12=>?_)
   refine T1 (fun hc13=>?_) (fun hc13=>?_)
   ·exact T2 (Qr trivial)
   exact T2 (QG ⟨(by simp_all),by subst hi3;exact QL (by simp_all) (h_l1).1,trivial⟩)
  exact T2 (Qr trivial)
 rcases q6 with q6 | q6
 ·show Qg (QbC q6.1 q6.2) _
  unfold QbC
  exact T3
 show Qg (QbD) _
 unfold QbD
 exact T3
theorem QgZ (l1:(List Qu))(k2:Int)(h_l1:(QJ Q5) l1):Qg (Qbm l1 k2) fun r=>r=true→0≤k2∧k2<l1.length:=by
 unfold Qbm
 exact T2 (by first | (intro hr;first | (cases hr;done) | omega | ((try simp only [Qt,QbJ,Qd1,QdF,Qh9,QX,Qcs,beq_iff_eq,bne_iff_ne,ne_eq,QlI,QlH,QiP,QjA,Qjz,Qks,Qg2,Qf2,QiM,QiN,QhE]at *);omega)) | ((try simp only [Qt,QbJ,Qd1,QdF,Qh9,QX,Qcs,beq_iff_eq,bne_iff_ne,ne_eq,QlI,QlH,QiP,QjA,Qjz,Qks,Qg2,Qf2,QiM,QiN,QhE]at *);omega) | simp_all)
theorem QqY (v1:Int)(v2:Qm)(v3:Qu)(h_v2:QA v2)(h_v3:Q5 v3):Qg (Qip v1 v2 v3) fun r=>True:=by
 unfold Qip
 exact T3
theorem QoA (v1:Int)(v2:Qm)(v3:Qu)(v4:Int)(h_v2:QA v2)(h_v3:Q5 v3):Qg (Qfq v1 v2 v3 v4) fun r=>True:=by
 unfold Qfq
 exact T3
theorem QoB (v1:Int)(v2:Qm)(v3:Qu)(v4:Int)(h_v2:QA v2)(h_v3:Q5 v3):Qg (Qfr v1 v2 v3 v4) fun r=>True:=by
 unfold Qfr
 exact T3
theorem QoC (v1:Int)(v2:Qm)(v3:Qu)(h_v2:QA v2)(h_v3:Q5 v3):Qg (Qfs v1 v2 v3) fun r=>True:=by
 unfold Qfs
 exact T3
theorem Qp5 (v1:Qu)(h_v1:Q5 v1):Qg (Qhu v1) fun r=>True:=by
 unfold Qhu
 refine T0 (Qe3 v1.Name (h_v1.1)) (fun x_1 hv2=>?_)
 exact T3
theorem Qp6 (p1:Qu)(v2:Qu)(h_p1:Q5 p1)(h_v2:Q5 v2):Qg (Qhv p1 v2) fun r=>True:=by
 unfold Qhv
 exact T3
theorem Qf1 (s1:(List Qu))(v2:Qu)(h_s1:(QJ Q5) s1)(h_v2:Q5 v2):Qg (Qaw s1 v2) fun r=>True:=by
 unfold Qaw
 refine T0 (Qg.up (s1.length) (fun st=>st) (fun _=>True) (Q:=fun q=>True) rfl trivial (fun i2 st hi3 hn4 hj5=>?_)) (fun q6 hq7=>?_)
 ·obtain⟨x_1,hst⟩:∃y,y=st:=⟨_,rfl⟩
  subst hst
  replace hi3:x_1=(i2:Int):=hi3
  show Qg (Qai s1 v2 x_1) _
  unfold Qai
  refine T1 (fun hc8=>?_) (fun hc8=>?_)
  ·refine T0 (T4 (by omega) (by simp_all)) (fun e_9 hv10=>?_)
   refine T0 (Qp6 e_9 v2 (((h_s1).2 e_9 hv10)) (h_v2)) (fun x_11 hv12=>?_)
   refine T1 (fun hc13=>?_) (fun hc13=>?_)
   ·exact T2 (Qr trivial)
   exact T2 (QG ⟨(by simp_all),by subst hi3;exact QL (by simp_all) (h_s1).1,trivial⟩)
  exact T2 (Qr trivial)
 rcases q6 with q6 | q6
 ·show Qg (Qaj q6) _
  unfold Qaj
  exact T3
 show Qg (Qak) _
 unfold Qak
 exact T3
theorem Qe5 (s1:(List Qu))(v2:Qu)(h_s1:(QJ Q5) s1)(h_v2:Q5 v2):Qg (Qal s1 v2) fun r=>True:=by
 unfold Qal
 refine T0 (Qf1 s1 v2 (h_s1) (h_v2)) (fun x_1 hv2=>?_)
 exact T3
theorem Qp7 (v1:Qm)(v2:Int)(v3:Qu)(h_v1:QA v1)(h_v3:Q5 v3)(hp0:0≤v2)(hp1:v2<v1.Tasks.length):Qg (Qhw v1 v2 v3) fun r=>True:=by
 unfold Qhw
 refine T0 (T5 (by simp_all;omega)) (fun _ _=>?_)
 refine T0 (Qe5 ((v1.Tasks.drop 0).take (v2.toNat-0)) v3 (((h_v1.2.2.1).drop _).take _) (h_v3)) (fun x_1 hv2=>?_)
 exact T3
theorem Qp8 (v1:Int)(v2:Qu)(h_v2:Q5 v2):Qg (QeZ v1 v2) fun r=>True:=by
 unfold QeZ
 exact T3
theorem QlC (v1:Q6)(h_v1:Qcj v1):Qg (QcP v1) fun r=>True:=by
 unfold QcP
 refine T0 (Qe3 v1.Name (h_v1.1)) (fun x_1 hv2=>?_)
 exact T3
theorem QlD (p1:Q6)(v2:Q6)(h_p1:Qcj p1)(h_v2:Qcj v2):Qg (QcQ p1 v2) fun r=>True:=by
 unfold QcQ
 exact T3
theorem Qg0 (s1:(List Q6))(v2:Q6)(h_s1:(QJ Qcj) s1)(h_v2:Qcj v2):Qg (QaH s1 v2) fun r=>True:=by
 unfold QaH
 refine T0 (Qg.up (s1.length) (fun st=>st) (fun _=>True) (Q:=fun q=>True) rfl trivial (fun i2 st hi3 hn4 hj5=>?_)) (fun q6 hq7=>?_)
 ·obtain⟨x_1,hst⟩:∃y,y=st:=⟨_,rfl⟩
  subst hst
  replace hi3:x_1=(i2:Int):=hi3
  show Qg (Qas s1 v2 x_1) _
  unfold Qas
  refine T1 (fun hc8=>?_) (fun hc8=>?_)
  ·refine T0 (T4 (by omega) (by simp_all)) (fun e_9 hv10=>?_)
   refine T0 (QlD e_9 v2 (((h_s1).2 e_9 hv10)) (h_v2)) (fun x_11 hv12=>?_)
   refine T1 (fun hc13=>?_) (fun hc13=>?_)
   ·exact T2 (Qr trivial)
   exact T2 (QG ⟨(by simp_all),by subst hi3;exact QL (by simp_all) (h_s1).1,trivial⟩)
  exact T2 (Qr trivial)
 rcases q6 with q6 | q6
 ·show Qg (Qat q6) _
  unfold Qat
  exact T3
 show Qg (Qau) _
 unfold Qau
 exact T3
theorem QfT (s1:(List Q6))(v2:Q6)(h_s1:(QJ Qcj) s1)(h_v2:Qcj v2):Qg (Qav s1 v2) fun r=>True:=by
 unfold Qav
 refine T0 (Qg0 s1 v2 (h_s1) (h_v2)) (fun x_1 hv2=>?_)
 exact T3
theorem QlE (v1:(List Q6))(v2:Int)(v3:Q6)(h_v1:(QJ Qcj) v1)(h_v3:Qcj v3)(hp0:0≤v2)(hp1:v2<v1.length):Qg (QcR v1 v2 v3) fun r=>True:=by
 unfold QcR
 refine T0 (T5 (by simp_all;omega)) (fun _ _=>?_)
 refine T0 (QfT ((v1.drop 0).take (v2.toNat-0)) v3 (((h_v1).drop _).take _) (h_v3)) (fun x_1 hv2=>?_)
 exact T3
theorem QlF (v1:Qm)(v2:Q6)(h_v1:QA v1)(h_v2:Qcj v2):Qg (QcS v1 v2) fun r=>True:=by
 unfold QcS
 refine T0 (QfS v1.Colours v2.Colour (h_v1.1)) (fun x_1 hv2=>?_)
 exact T3
theorem QoD (v1:Q6)(v2:Int)(v3:(List Q6))(v4:Int)(v5:Int)(v6:Qm)(v7:Int)(h_v1:Qcj v1)(h_v3:(QJ Qcj) v3)(h_v6:QA v6)(hp0:0≤v4)(hp1:v4<v3.length):Qg (Qfu v1 v2 v3 v4 v5 v6 v7) fun r=>True:=by
 unfold Qfu
 refine T0 (QlC v1 (h_v1)) (fun x_1 hv2=>?_)
 refine T1 (fun hc3=>?_) (fun hc3=>?_)
 ·exact T3
 refine T0 (QlE v3 v4 v1 (h_v3) (h_v1) (by omega) (by omega)) (fun x_4 hv5=>?_)
 refine T1 (fun hc6=>?_) (fun hc6=>?_)
 ·exact T3
 refine T0 (QlF v6 v1 (h_v6) (h_v1)) (fun x_7 hv8=>?_)
 refine T1 (fun hc9=>?_) (fun hc9=>?_)
 ·exact T3
 exact T3
theorem QmV (k1:Int)(v2:Q6)(v3:(List Q6))(v4:Qm)(h_v2:Qcj v2)(h_v3:(QJ Qcj) v3)(h_v4:QA v4)(hp0:0≤k1)(hp1:k1<v3.length):Qg (QdM k1 v2 v3 v4) fun r=>True:=by
 unfold QdM
 refine T0 (QoD v2 1 v3 k1 5 v4 3 (h_v2) (h_v3) (h_v4) (by omega) (by omega)) (fun x_1 hv2=>?_)
 exact T3
theorem Qms (l1:(List Q6))(v2:(List Q6))(v3:Qm)(h_l1:(QJ Qcj) l1)(h_v2:(QJ Qcj) v2)(h_v3:QA v3)(hp0:l1.length≤v2.length):Qg (Qc8 l1 v2 v3) fun r=>True:=by
 unfold Qc8
 refine T0 (Qg.up (l1.length) (fun st=>st) (fun _=>True) (Q:=fun q=>True) rfl trivial (fun i2 st hi3 hn4 hj5=>?_)) (fun q6 hq7=>?_)
 ·obtain⟨x_1,hst⟩:∃y,y=st:=⟨_,rfl⟩
  subst hst
  replace hi3:x_1=(i2:Int):=hi3
  show Qg (Qca l1 v2 v3 x_1) _
  unfold Qca
  refine T1 (fun hc8=>?_) (fun hc8=>?_)
  ·refine T0 (T4 (by omega) (by simp_all)) (fun e_9 hv10=>?_)
   refine T0 (QmV x_1 e_9 v2 v3 (((h_l1).2 e_9 hv10)) (h_v2) (h_v3) (by omega) (by simp_all;omega)) (fun x_11 hv12=>?_)
   refine T1 (fun hc13=>?_) (fun hc13=>?_)
   ·exact T2 (Qr trivial)
   exact T2 (QG ⟨(by simp_all),by subst hi3;exact QL (by simp_all) (h_l1).1,trivial⟩)
  exact T2 (Qr trivial)
 rcases q6 with q6 | q6
 ·show Qg (Qcb q6.1 q6.2) _
  unfold Qcb
  exact T3
 show Qg (Qcc) _
 unfold Qcc
 exact T3
theorem QnX (n1:Qm)(l2:(List Q6))(h_n1:QA n1)(h_l2:(QJ Qcj) l2):Qg (QeL n1 l2) fun r=>True:=by
 unfold QeL
 refine T0 (Qms l2 l2 n1 (h_l2) (h_l2) (h_n1) (by omega)) (fun x_1 hv2=>?_)
 exact T3
theorem Qp9 (v1:Qm)(v2:Qu)(h_v1:QA v1)(h_v2:Q5 v2):Qg (Qhx v1 v2) fun r=>True:=by
 unfold Qhx
 refine T0 (QnX v1 v2.Vars (h_v1) (h_v2.2.1)) (fun x_1 hv2=>?_)
 exact T3
theorem Qpn (v1:Qm)(v2:Qu)(v3:Int)(h_v1:QA v1)(h_v2:Q5 v2):Qg (Qgu v1 v2 v3) fun r=>True:=by
 unfold Qgu
 refine T0 (Qp9 v1 v2 (h_v1) (h_v2)) (fun x_1 hv2=>?_)
 exact T3
theorem QqZ (n1:Qm)(k2:Int)(h_n1:QA n1):Qg (Qiq n1 k2) fun r=>True:=by
 unfold Qiq
 refine T0 (QgZ n1.Tasks k2 (h_n1.2.2.1)) (fun x_1 hv2=>?_)
 refine T1 (fun hc3=>?_) (fun hc3=>?_)
 ·exact T3
 refine T0 (T4 (by simp_all) (by simp_all)) (fun e_4 hv5=>?_)
 refine T0 (Qg.up (e_4.Vars.length) (fun st=>st.2) (fun _=>True) (Q:=fun q=>True) rfl trivial (fun i8 st hi9 hn10 hj11=>?_)) (fun q12 hq13=>?_)
 ·obtain⟨out_6,x_7⟩:=st
  replace hi9:x_7=(i8:Int):=hi9
  show Qg (Qfv e_4 n1 out_6 x_7) _
  unfold Qfv
  refine T1 (fun hc14=>?_) (fun hc14=>?_)
  ·refine T0 (T4 (by omega) (by simp_all)) (fun e_15 hv16=>?_)
   refine T0 (Qma n1.Colours e_15.Colour (h_n1.1)) (fun x_17 hv18=>?_)
   refine T1 (fun hc19=>?_) (fun hc19=>?_)
   ·exact T2 (Qr trivial)
   exact T2 (QG ⟨(by simp_all),by subst hi9;exact QL (by simp_all) (((h_n1.2.2.1).2 e_4 hv5).2.1).1,trivial⟩)
  exact T2 (Qr trivial)
 rcases q12 with q12 | q12
 ·show Qg (Qfw) _
  unfold Qfw
  exact T3
 show Qg (Qfx q12) _
 unfold Qfx
 exact T3
theorem Qqa (v1:Qm)(v2:Int)(h_v1:QA v1):Qg (Qhy v1 v2) fun r=>True:=by
 unfold Qhy
 refine T0 (QqZ v1 v2 (h_v1)) (fun x_1 hv2=>?_)
 exact T3
theorem QrX (kind1:Int):Qg (QjJ kind1) fun r=>0≤r→(kind1=1∨kind1=2∨kind1=3∨kind1=4∨kind1=5∨kind1=6)∧(kind1=3∨kind1=4→r=1)∧(kind1=5→r=2)∧(kind1=6→r=3):=by
 unfold QjJ
 refine T1 (fun hc=>?_) (fun hc=>?_)
 ·unfold Qe1;rw [hc]
  simp only [beq_iff_eq]at hc
  exact T2 (by omega)
 simp only [beq_eq_false_iff_ne]at hc
 unfold Qe1
 refine T1 (fun hc=>T2 (by simp only [beq_iff_eq]at hc;omega)) (fun hc2=>?_)
 simp only [beq_eq_false_iff_ne]at hc2
 refine T1 (fun hc3=>?_) (fun hc3=>?_)
 ·unfold Qe0;rw [hc3]
  simp only [beq_iff_eq]at hc3
  exact T2 (by omega)
 simp only [beq_eq_false_iff_ne]at hc3
 unfold Qe0
 refine T1 (fun hc=>T2 (by simp only [beq_iff_eq]at hc;omega)) (fun hc4=>?_)
 simp only [beq_eq_false_iff_ne]at hc4
 refine T1 (fun hc=>T2 (by simp only [beq_iff_eq]at hc;omega)) (fun hc5=>?_)
 simp only [beq_eq_false_iff_ne]at hc5
 exact T1 (fun hc=>T2 (by simp only [beq_iff_eq]at hc;omega)) (fun hc6=>T2 (by omega))
theorem Qrv (op1:Int)  : Qg (Qja op1) fun r=>True:=by
 unfold Qja
 exact T3
theorem Qjw (rec_:Qj→Int→Option Bool)(s1:List Qj)(v2:Int)(h1:s1.length≤maxLen)(h:∀k∈s1,Qg (rec_ k v2) fun r=>r=true→POk v2 k):Qg (Qan rec_ s1 v2) fun r=>r=false→∀k∈s1,POk v2 k:=by
 unfold Qan Qbb
 refine T0 (P:=fun x=>x<0→∀k∈s1,POk v2 k) ?_ fun x hx=>T2 fun h=>hx (by simp only [Qcs]at h;omega)
 refine T0 (Qg.up s1.length (fun st=>st) (fun st=>∀(j:Nat) k,(j:Int)<st→s1[j]? = some k→POk v2 k) (Q:=fun q=>(∀x,q=.inl x→0≤x)∧(q=.inr ()→∀k∈s1,POk v2 k)) rfl (fun j k hj=>by omega) (fun i st hi hn hj=>?_)) (fun q hq=>?_)
 ·show Qg (Qam s1 rec_ v2 st) _
  unfold Qam Qjt
  refine T1 (fun hc=>?_) (fun hc=>T2 (Qr ⟨fun x h=>(by cases h),fun _ k hk=>by
   obtain⟨j,hj1,hj2⟩:=List.mem_iff_getElem.1 hk
   simp only [Qcs]at hc
   exact hj j k (by omega) (by rw [QN hj1,hj2])⟩))
  simp only [QX]at hc
  rw [Qtb (by omega)]
  have hlt:st.toNat<s1.length:=by omega
  rw [QN hlt]
  refine T0 (P:=fun k=>k=s1[st.toNat]) (T2 rfl) fun k hk=>?_
  subst hk
  refine T0 (P:=fun r=>r=false→POk v2 s1[st.toNat]) (T0 (h _ (Qkr hlt)) fun x hx=>T2 fun h=>hx (by simpa using h)) fun x hx=>?_
  refine T1 (fun _=>T2 (Qr ⟨fun x h=>(by cases h;omega),fun h=>(by cases h)⟩)) fun hxf=>T2 (QG ⟨by omega,by rw [hi];exact QL (by omega) h1,?_⟩)
  rw [hi,QL (show i<s1.length by omega) h1]
  intro j k hj' hk
  by_cases c:j=i
  ·subst c
   have e:st.toNat=j:=by omega
   have:=hx hxf
   rw [QN (by omega)]at hk
   cases hk
   simpa only [e] using this
  exact hj j k (by omega) hk
 rcases q with q | q
 ·exact T2 fun h=>absurd (hq.1 q rfl) (by omega)
 exact T2 fun _=>hq.2 rfl
theorem Qlu : ∀(n:Nat) (e:Qj) (v:Int),QbV e→SizeOf.sizeOf e≤n→Qg (Qcp n e v) fun r=>r=true→POk v e
 | 0,e,_,_,h=>absurd e.pos (by omega)
 | n+1,e,v,he,h=>by
  unfold Qcp Qju
  refine T0 (QrX e.Kind) fun x hx=>?_
  refine T1 (fun _=>T2 fun h=>by cases h) fun h1=>T1 (fun _=>T2 fun h=>by cases h) fun h2=>?_
  refine T0 (P:=fun _=>True) ?_ fun y _=>?_
  ·unfold Ql6
   exact T1 (fun _=>T0 (Qrv e.Num) fun x _=>T3) fun _=>T3
  unfold Qgw
  refine T1 (fun _=>T2 fun h=>by cases h) fun _=>?_
  refine T0 (Qjw (Qcp n) e.Kids v (QcK he).1 fun k hk=>Qlu n k v ((QcK he).2 k hk) (by have:=QqN hk;omega)) fun x hx2=>T2 fun hx3=>?_
  simp only [bne_eq_false_iff_eq]at h1
  have h3:=hx (by omega)
  simp only [Bool.and_eq_false_iff,Qd1,Qcs,beq_eq_false_iff_ne]at h2
  exact .mk e h3.1 (fun hk=>by omega) (fun hk=>by have:=h3.2.1 hk;omega) (fun hk=>by have:=h3.2.2.1 hk;omega) (fun hk=>by have:=h3.2.2.2 hk;omega) (hx2 (by simpa using hx3))
theorem Qrw (e1:Qj)(vars2:Int)(h_e1:QbV e1):Qg (Qlo e1 vars2) fun r=>r=true→POk vars2 e1:=Qlu _ e1 vars2 h_e1 (Qbz _)
theorem Qlv : ∀(n:Nat) (e:Qj),QbV e→SizeOf.sizeOf e≤n→Qg (Qco n e) fun _=>True
 | 0,e,_,h=>absurd e.pos (by omega)
 | n+1,e,he,h=>by
  unfold Qco Qjr
  refine T0 (Qg.up e.Kids.length (fun st=>st.2) (fun _=>True) (Q:=fun _=>True) rfl trivial (fun i st hi hn _=>?_)) (fun q _=>?_)
  ·obtain⟨a,x⟩:=st
   replace hi:x=(i:Int):=hi
   show Qg (Qgv e (Qco n) a x) _
   unfold Qgv
   refine T1 (fun hc=>?_) (fun hc=>?_)
   ·simp only [QX]at hc
    refine T0 (T4 (by omega) (by omega)) fun k hk=>?_
    have:=QqN hk
    refine T0 (Qlv n k ((QcK he).2 k hk) (by omega)) fun d _=>?_
    exact T2 (QG ⟨by omega,by subst hi;exact QL (by omega) (QcK he).1,trivial⟩)
   exact T2 (Qr trivial)
  unfold Qi9
  exact T3
theorem Qrx (e1:Qj)(h_e1:QbV e1):Qg (Qlm e1) fun _=>True:=Qlv _ e1 h_e1 (Qbz _)
theorem Qmb : ∀(n:Nat) (e:Qj),QbV e→SizeOf.sizeOf e≤n→Qg (QcV n e) fun _=>True
 | 0,e,_,h=>absurd e.pos (by omega)
 | n+1,e,he,h=>by
  unfold QcV Qj4
  refine T0 (Qg.up e.Kids.length (fun st=>st.2) (fun _=>True) (Q:=fun _=>True) rfl trivial (fun i st hi hn _=>?_)) (fun q _=>?_)
  ·obtain⟨a,x⟩:=st
   replace hi:x=(i:Int):=hi
   show Qg (Qhz e (QcV n) a x) _
   unfold Qhz
   refine T1 (fun hc=>?_) (fun hc=>?_)
   ·simp only [QX]at hc
    refine T0 (T4 (by omega) (by omega)) fun k hk=>?_
    have:=QqN hk
    refine T0 (Qmb n k ((QcK he).2 k hk) (by omega)) fun d _=>?_
    exact T2 (QG ⟨by omega,by subst hi;exact QL (by omega) (QcK he).1,trivial⟩)
   exact T2 (Qr trivial)
  unfold Qjs
  exact T3
theorem QrY (e1:Qj)(h_e1:QbV e1):Qg (Qmp e1) fun _=>True:=Qmb _ e1 h_e1 (Qbz _)
theorem QmW (e1:Qj)(vars2:Int)(h_e1:QbV e1):Qg (QgV e1 vars2) fun r=>r=true→POk vars2 e1:=by
 unfold QgV
 refine T0 (P:=fun r=>r=true→POk vars2 e1) ?_ (fun x hx=>T2 hx)
 unfold Ql7
 refine T0 (Qrx e1 h_e1) (fun x _=>?_)
 refine T1 (fun _=>?_) (fun _=>T2 fun h=>by cases h)
 refine T0 (QrY e1 h_e1) (fun x _=>?_)
 refine T1 (fun _=>?_) (fun _=>T2 fun h=>by cases h)
 exact T0 (Qrw e1 vars2 h_e1) (fun x hx=>T2 hx)
theorem Qqb (v1:Qu)(v2:Int)(h_v1:Q5 v1):Qg (QhA v1 v2) fun r=>True:=by
 unfold QhA
 refine T0 (P:=fun _=>True) ?_ (fun x_1 hv2=>?_)
 ·unfold Qkn
  refine T0 (QmW v1.Guard v2 (h_v1.2.2.1)) (fun x_3 hv4=>?_)
  refine T1 (fun hc5=>?_) (fun hc5=>?_)
  ·refine T1 (fun hc6=>?_) (fun hc6=>?_)
   ·exact T3
   exact T3
  exact T3
 unfold QeM
 exact T3
theorem QoE (v1:Qm)(v2:QM)(h_v1:QA v1)(h_v2:Qh7 v2):Qg (Qfy v1 v2) fun r=>True:=by
 unfold Qfy
 refine T0 (Qa6 v1.Places v2.Place (h_v1.2.1)) (fun x_1 hv2=>?_)
 exact T3
theorem QoF (v1:QM)(v2:Int)(h_v1:Qh7 v1):Qg (Qfz v1 v2) fun r=>True:=by
 unfold Qfz
 refine T0 (QmW v1.Expr v2 (h_v1.2)) (fun x_1 hv2=>?_)
 exact T3
theorem QoG (v1:Qm)(v2:QM)(v3:Int)(v4:Int)(v5:Int)(h_v1:QA v1)(h_v2:Qh7 v2):Qg (QfA v1 v2 v3 v4 v5) fun r=>True:=by
 unfold QfA
 refine T0 (QoE v1 v2 (h_v1) (h_v2)) (fun x_1 hv2=>?_)
 refine T1 (fun hc3=>?_) (fun hc3=>?_)
 ·exact T3
 refine T0 (QoF v2 v4 (h_v2)) (fun x_4 hv5=>?_)
 refine T1 (fun hc6=>?_) (fun hc6=>?_)
 ·exact T3
 exact T3
theorem Qqc (p1:Int)(a2:QM)(v3:Qm)(v4:Int)(h_a2:Qh7 a2)(h_v3:QA v3):Qg (QhB p1 a2 v3 v4) fun r=>True:=by
 unfold QhB
 refine T0 (QoG v3 a2 3 v4 1 (h_v3) (h_a2)) (fun x_1 hv2=>?_)
 exact T3
theorem Qmt (l1:(List QM))(v2:Qm)(v3:Int)(h_l1:(QJ Qh7) l1)(h_v2:QA v2):Qg (Qc9 l1 v2 v3) fun r=>True:=by
 unfold Qc9
 refine T0 (Qg.up (l1.length) (fun st=>st) (fun _=>True) (Q:=fun q=>True) rfl trivial (fun i2 st hi3 hn4 hj5=>?_)) (fun q6 hq7=>?_)
 ·obtain⟨x_1,hst⟩:∃y,y=st:=⟨_,rfl⟩
  subst hst
  replace hi3:x_1=(i2:Int):=hi3
  show Qg (Qcd l1 v2 v3 x_1) _
  unfold Qcd
  refine T1 (fun hc8=>?_) (fun hc8=>?_)
  ·refine T0 (T4 (by omega) (by simp_all)) (fun e_9 hv10=>?_)
   refine T0 (Qqc x_1 e_9 v2 v3 (((h_l1).2 e_9 hv10)) (h_v2)) (fun x_11 hv12=>?_)
   refine T1 (fun hc13=>?_) (fun hc13=>?_)
   ·exact T2 (Qr trivial)
   exact T2 (QG ⟨(by simp_all),by subst hi3;exact QL (by simp_all) (h_l1).1,trivial⟩)
  exact T2 (Qr trivial)
 rcases q6 with q6 | q6
 ·show Qg (Qce q6.1 q6.2) _
  unfold Qce
  exact T3
 show Qg (Qcf) _
 unfold Qcf
 exact T3
theorem QmX (n1:Qm)(l2:(List QM))(vars3:Int)(h_n1:QA n1)(h_l2:(QJ Qh7) l2):Qg (QgW n1 l2 vars3) fun r=>True:=by
 unfold QgW
 refine T0 (Qmt l2 n1 vars3 (h_l2) (h_n1)) (fun x_1 hv2=>?_)
 exact T3
theorem Qqd (v1:Qm)(v2:Qu)(v3:Int)(h_v1:QA v1)(h_v2:Q5 v2):Qg (QhC v1 v2 v3) fun r=>True:=by
 unfold QhC
 refine T0 (QmX v1 v2.Ins v3 (h_v1) (h_v2.2.2.2.2.2.1)) (fun x_1 hv2=>?_)
 exact T3
theorem Qnz (v1:Qm)(v2:Qu)(v3:Int)(v4:Int)(h_v1:QA v1)(h_v2:Q5 v2):Qg (Qeg v1 v2 v3 v4) fun r=>True:=by
 unfold Qeg
 refine T0 (Qqd v1 v2 v3 (h_v1) (h_v2)) (fun x_1 hv2=>?_)
 exact T3
theorem Qqe (v1:Qm)(v2:Qu)(v3:Int)(h_v1:QA v1)(h_v2:Q5 v2):Qg (QhD v1 v2 v3) fun r=>True:=by
 unfold QhD
 refine T0 (QmX v1 v2.Outs v3 (h_v1) (h_v2.2.2.2.2.2.2.1)) (fun x_1 hv2=>?_)
 exact T3
theorem QnA (v1:Qm)(v2:Qu)(v3:Int)(v4:Int)(h_v1:QA v1)(h_v2:Q5 v2):Qg (Qeh v1 v2 v3 v4) fun r=>True:=by
 unfold Qeh
 refine T0 (Qqe v1 v2 v3 (h_v1) (h_v2)) (fun x_1 hv2=>?_)
 exact T3
theorem QmY (v1:Qm)(v2:Int)(h_v1:QA v1):Qg (QdN v1 v2) fun r=>True:=by
 unfold QdN
 refine T0 (Qa6 v1.Places v2 (h_v1.2.1)) (fun x_1 hv2=>?_)
 exact T3
theorem Qlw (s1:(List Int))(v2:Int)(h_s1:(QJ (fun _=>True)) s1):Qg (Qcz s1 v2) fun r=>True:=by
 unfold Qcz
 refine T0 (Qg.up (s1.length) (fun st=>st) (fun _=>True) (Q:=fun q=>True) rfl trivial (fun i2 st hi3 hn4 hj5=>?_)) (fun q6 hq7=>?_)
 ·obtain⟨x_1,hst⟩:∃y,y=st:=⟨_,rfl⟩
  subst hst
  replace hi3:x_1=(i2:Int):=hi3
  show Qg (QbE s1 v2 x_1) _
  unfold QbE
  refine T1 (fun hc8=>?_) (fun hc8=>?_)
  ·refine T0 (T4 (by omega) (by simp_all)) (fun e_9 hv10=>?_)
   refine T1 (fun hc11=>?_) (fun hc11=>?_)
   ·exact T2 (Qr trivial)
   exact T2 (QG ⟨(by simp_all),by subst hi3;exact QL (by simp_all) (h_s1).1,trivial⟩)
  exact T2 (Qr trivial)
 rcases q6 with q6 | q6
 ·show Qg (QbF q6) _
  unfold QbF
  exact T3
 show Qg (QbG) _
 unfold QbG
 exact T3
theorem QjZ (s1:(List Int))(v2:Int)(h_s1:(QJ (fun _=>True)) s1):Qg (QbH s1 v2) fun r=>True:=by
 unfold QbH
 refine T0 (Qlw s1 v2 (h_s1)) (fun x_1 hv2=>?_)
 exact T3
theorem QmZ (v1:(List Int))(v2:Int)(v3:Int)(h_v1:(QJ (fun _=>True)) v1)(hp0:0≤v2)(hp1:v2<v1.length):Qg (QdO v1 v2 v3) fun r=>True:=by
 unfold QdO
 refine T0 (T5 (by simp_all;omega)) (fun _ _=>?_)
 refine T0 (QjZ ((v1.drop 0).take (v2.toNat-0)) v3 (((h_v1).drop _).take _)) (fun x_1 hv2=>?_)
 exact T3
theorem QoH (v1:Qm)(v2:Int)(v3:Int)(v4:(List Int))(v5:Int)(v6:Int)(h_v1:QA v1)(h_v4:(QJ (fun _=>True)) v4)(hp0:0≤v5)(hp1:v5<v4.length):Qg (QfB v1 v2 v3 v4 v5 v6) fun r=>True:=by
 unfold QfB
 refine T0 (QmY v1 v2 (h_v1)) (fun x_1 hv2=>?_)
 refine T1 (fun hc3=>?_) (fun hc3=>?_)
 ·exact T3
 refine T0 (QmZ v4 v5 v2 (h_v4) (by omega) (by omega)) (fun x_4 hv5=>?_)
 refine T1 (fun hc6=>?_) (fun hc6=>?_)
 ·exact T3
 exact T3
theorem QnY (k1:Int)(place2:Int)(v3:Qm)(v4:(List Int))(h_v3:QA v3)(h_v4:(QJ (fun _=>True)) v4)(hp0:0≤k1)(hp1:k1<v4.length):Qg (QeN k1 place2 v3 v4) fun r=>True:=by
 unfold QeN
 refine T0 (QoH v3 place2 3 v4 k1 5 (h_v3) (h_v4) (by omega) (by omega)) (fun x_1 hv2=>?_)
 exact T3
theorem QoI (l1:(List Int))(v2:Qm)(v3:(List Int))(h_l1:(QJ (fun _=>True)) l1)(h_v2:QA v2)(h_v3:(QJ (fun _=>True)) v3)(hp0:l1.length≤v3.length):Qg (QfC l1 v2 v3) fun r=>True:=by
 unfold QfC
 refine T0 (Qg.up (l1.length) (fun st=>st) (fun _=>True) (Q:=fun q=>True) rfl trivial (fun i2 st hi3 hn4 hj5=>?_)) (fun q6 hq7=>?_)
 ·obtain⟨x_1,hst⟩:∃y,y=st:=⟨_,rfl⟩
  subst hst
  replace hi3:x_1=(i2:Int):=hi3
  show Qg (QdP l1 v2 v3 x_1) _
  unfold QdP
  refine T1 (fun hc8=>?_) (fun hc8=>?_)
  ·refine T0 (T4 (by omega) (by simp_all)) (fun e_9 hv10=>?_)
   refine T0 (QnY x_1 e_9 v2 v3 (h_v2) (h_v3) (by omega) (by simp_all;omega)) (fun x_11 hv12=>?_)
   refine T1 (fun hc13=>?_) (fun hc13=>?_)
   ·exact T2 (Qr trivial)
   exact T2 (QG ⟨(by simp_all),by subst hi3;exact QL (by simp_all) (h_l1).1,trivial⟩)
  exact T2 (Qr trivial)
 rcases q6 with q6 | q6
 ·show Qg (QdQ q6.1 q6.2) _
  unfold QdQ
  exact T3
 show Qg (QdR) _
 unfold QdR
 exact T3
theorem Qpo (n1:Qm)(l2:(List Int))(h_n1:QA n1)(h_l2:(QJ (fun _=>True)) l2):Qg (Qgx n1 l2) fun r=>True:=by
 unfold Qgx
 refine T0 (QoI l2 n1 l2 (h_l2) (h_n1) (h_l2) (by omega)) (fun x_1 hv2=>?_)
 exact T3
theorem Qpp (v1:Qm)(v2:Qu)(h_v1:QA v1)(h_v2:Q5 v2):Qg (Qgy v1 v2) fun r=>True:=by
 unfold Qgy
 refine T0 (Qpo v1 v2.Cancel (h_v1) (h_v2.2.2.2.2.2.2.2.1)) (fun x_1 hv2=>?_)
 exact T3
theorem QnB (v1:Qm)(v2:Qu)(v3:Int)(h_v1:QA v1)(h_v2:Q5 v2):Qg (Qei v1 v2 v3) fun r=>True:=by
 unfold Qei
 refine T0 (Qpp v1 v2 (h_v1) (h_v2)) (fun x_1 hv2=>?_)
 exact T3
theorem Qkq (k1:Int)(l2:(List QM))(h_l2:(QJ Qh7) l2):Qg (QcT k1 l2) fun r=>True:=by
 unfold QcT
 exact T3
theorem Qq0 (t1:Qu)(h_t1:Q5 t1):Qg (QfQ t1) fun r=>True:=by
 unfold QfQ
 refine T0 (P:=fun _=>True) ?_ (fun x_1 hv2=>?_)
 ·unfold Qlp
  refine T0 (Qkq t1.Join t1.Ins (h_t1.2.2.2.2.2.1)) (fun x_3 hv4=>?_)
  refine T1 (fun hc5=>?_) (fun hc5=>?_)
  ·refine T0 (Qkq t1.Split t1.Outs (h_t1.2.2.2.2.2.2.1)) (fun x_6 hv7=>?_)
   refine T1 (fun hc8=>?_) (fun hc8=>?_)
   ·refine T1 (fun hc9=>?_) (fun hc9=>?_)
    ·refine T1 (fun hc10=>?_) (fun hc10=>?_)
     ·exact T3
     exact T3
    exact T3
   exact T3
  exact T3
 unfold QfD
 exact T3
theorem Qpq (v1:Qu)(h_v1:Q5 v1):Qg (Qgz v1) fun r=>True:=by
 unfold Qgz
 refine T0 (Qq0 v1 (h_v1)) (fun x_1 hv2=>?_)
 exact T3
theorem QoJ (v1:Qu)(v2:Int)(v3:Qm)(v4:Int)(v5:Int)(v6:Int)(v7:Int)(v8:Int)(v9:Int)(v10:Int)(v11:Int)(v12:Int)(v13:Int)(v14:Int)(v15:Int)(h_v1:Q5 v1)(h_v3:QA v3)(hp0:0≤v4)(hp1:v4<v3.Tasks.length):Qg (QdD v1 v2 v3 v4 v5 v6 v7 v8 v9 v10 v11 v12 v13 v14 v15) fun r=>True:=by
 unfold QdD
 refine T0 (Qp5 v1 (h_v1)) (fun x_1 hv2=>?_)
 refine T1 (fun hc3=>?_) (fun hc3=>?_)
 ·exact T3
 refine T0 (Qp7 v3 v4 v1 (h_v3) (h_v1) (by omega) (by omega)) (fun x_4 hv5=>?_)
 refine T1 (fun hc6=>?_) (fun hc6=>?_)
 ·exact T3
 refine T0 (Qp8 v6 v1 (h_v1)) (fun x_7 hv8=>?_)
 refine T1 (fun hc9=>?_) (fun hc9=>?_)
 ·exact T3
 refine T0 (Qpn v3 v1 v8 (h_v3) (h_v1)) (fun x_10 hv11=>?_)
 refine T1 (fun hc12=>?_) (fun hc12=>?_)
 ·exact T3
 refine T0 (Qqa v3 v4 (h_v3)) (fun x_13 hv14=>?_)
 refine T1 (fun hc15=>?_) (fun hc15=>?_)
 ·exact T3
 refine T0 (Qqb v1 v6 (h_v1)) (fun x_16 hv17=>?_)
 refine T1 (fun hc18=>?_) (fun hc18=>?_)
 ·exact T3
 refine T0 (Qnz v3 v1 v6 x_10.2 (h_v3) (h_v1)) (fun x_19 hv20=>?_)
 refine T1 (fun hc21=>?_) (fun hc21=>?_)
 ·exact T3
 refine T0 (QnA v3 v1 v6 x_19.2 (h_v3) (h_v1)) (fun x_22 hv23=>?_)
 refine T1 (fun hc24=>?_) (fun hc24=>?_)
 ·exact T3
 refine T0 (QnB v3 v1 x_22.2 (h_v3) (h_v1)) (fun x_25 hv26=>?_)
 refine T1 (fun hc27=>?_) (fun hc27=>?_)
 ·exact T3
 refine T0 (Qpq v1 (h_v1)) (fun x_28 hv29=>?_)
 refine T1 (fun hc30=>?_) (fun hc30=>?_)
 ·exact T3
 exact T3
theorem Qm0 (n1:Qm)(k2:Int)(h_n1:QA n1):Qg (Qbn n1 k2) fun r=>True:=by
 unfold Qbn
 refine T0 (QgZ n1.Tasks k2 (h_n1.2.2.1)) (fun x_1 hv2=>?_)
 refine T1 (fun hc3=>?_) (fun hc3=>?_)
 ·exact T3
 refine T0 (Qkp n1 (h_n1)) (fun x_4 hv5=>?_)
 refine T1 (fun hc6=>?_) (fun hc6=>?_)
 ·exact T3
 refine T0 (T4 (by simp_all) (by simp_all)) (fun e_7 hv8=>?_)
 refine T0 (T4 (by simp_all) (by simp_all)) (fun e_9 hv10=>?_)
 refine T0 (QqY 0 n1 e_7 (h_n1) (((h_n1.2.2.1).2 e_7 hv8))) (fun x_11 hv12=>?_)
 refine T0 (QoA 0 n1 e_7 (e_9.Vars.length:Int) (h_n1) (((h_n1.2.2.1).2 e_7 hv8))) (fun x_13 hv14=>?_)
 refine T0 (QoB 0 n1 e_7 (e_9.Vars.length:Int) (h_n1) (((h_n1.2.2.1).2 e_7 hv8))) (fun x_15 hv16=>?_)
 refine T0 (QoC 0 n1 e_7 (h_n1) (((h_n1.2.2.1).2 e_7 hv8))) (fun x_17 hv18=>?_)
 refine T0 (QoJ e_7 1 n1 k2 5 (e_9.Vars.length:Int) 2 0 (-1) 2 1 (-1) (-1) (-1) 11 (((h_n1.2.2.1).2 e_7 hv8)) (h_n1) (by simp_all) (by simp_all)) (fun x_19 hv20=>?_)
 refine T1 (fun hc21=>?_) (fun hc21=>?_)
 ·exact T3
 exact T3
theorem Qq1 (k1:Int)(p2:Qu)(v3:Qm)(h_p2:Q5 p2)(h_v3:QA v3):Qg (QfR k1 p2 v3) fun r=>True:=by
 unfold QfR
 refine T0 (Qm0 v3 k1 (h_v3)) (fun x_1 hv2=>?_)
 exact T3
theorem QlG (l1:(List Qu))(v2:Qm)(h_l1:(QJ Q5) l1)(h_v2:QA v2):Qg (Qa7 l1 v2) fun r=>True:=by
 unfold Qa7
 refine T0 (Qg.up (l1.length) (fun st=>st) (fun _=>True) (Q:=fun q=>True) rfl trivial (fun i2 st hi3 hn4 hj5=>?_)) (fun q6 hq7=>?_)
 ·obtain⟨x_1,hst⟩:∃y,y=st:=⟨_,rfl⟩
  subst hst
  replace hi3:x_1=(i2:Int):=hi3
  show Qg (QaJ l1 v2 x_1) _
  unfold QaJ
  refine T1 (fun hc8=>?_) (fun hc8=>?_)
  ·refine T0 (T4 (by omega) (by simp_all)) (fun e_9 hv10=>?_)
   refine T0 (Qq1 x_1 e_9 v2 (((h_l1).2 e_9 hv10)) (h_v2)) (fun x_11 hv12=>?_)
   refine T1 (fun hc13=>?_) (fun hc13=>?_)
   ·exact T2 (Qr trivial)
   exact T2 (QG ⟨(by simp_all),by subst hi3;exact QL (by simp_all) (h_l1).1,trivial⟩)
  exact T2 (Qr trivial)
 rcases q6 with q6 | q6
 ·show Qg (QbQ q6.1 q6.2) _
  unfold QbQ
  exact T3
 show Qg (QbR) _
 unfold QbR
 exact T3
theorem QrZ (n1:Qm)(h_n1:QA n1):Qg (QfX n1) fun r=>True:=by
 unfold QfX
 refine T0 (QqR n1 2 3 1 (h_n1)) (fun x_1 hv2=>?_)
 refine T1 (fun hc3=>?_) (fun hc3=>?_)
 ·exact T3
 refine T0 (Qkp n1 (h_n1)) (fun x_4 hv5=>?_)
 refine T1 (fun hc6=>?_) (fun hc6=>?_)
 ·exact T3
 refine T0 (Qlt n1.Places n1 (h_n1.2.1) (h_n1)) (fun x_7 hv8=>?_)
 refine T1 (fun hc9=>?_) (fun hc9=>?_)
 ·exact T3
 refine T0 (QlG n1.Tasks n1 (h_n1.2.2.1) (h_n1)) (fun x_10 hv11=>?_)
 refine T1 (fun hc12=>?_) (fun hc12=>?_)
 ·exact T3
 exact T3
end Go.Proofs
noncomputable section
namespace Go.Proofs
open Go Go.RowKit Go.Vm
end Go.Proofs
noncomputable section
namespace Go.Proofs
open Go Go.RowKit Go.Vm
theorem Qtc : ∀(n:Nat) (e:Qj) (d:Int),QbV e→SizeOf.sizeOf e≤n→Qg (QcU n e d) fun _=>True
 | 0,e,_,_,h=>absurd e.pos (by omega)
 | n+1,e,d,he,h=>by
  unfold QcU Qj2
  refine T1 (fun _=>T3) fun _=>?_
  refine T0 (Qg.up e.Kids.length (fun st=>st.2) (fun _=>True) (Q:=fun _=>True) rfl trivial (fun i st hi hn _=>?_)) (fun q _=>?_)
  ·obtain⟨a,x⟩:=st
   replace hi:x=(i:Int):=hi
   show Qg (Qhl e (QcU n) d a x) _
   unfold Qhl
   refine T1 (fun hc=>?_) (fun hc=>T2 (Qr trivial))
   simp only [QX]at hc
   refine T0 (T4 (by omega) (by omega)) fun k hk=>?_
   have:=QqN hk
   refine T0 (Qtc n k _ ((QcK he).2 k hk) (by omega)) fun y _=>?_
   refine T1 (fun _=>T2 (Qr trivial)) fun _=>T1 (fun _=>T2 (Qr trivial)) fun _=>?_
   exact T2 (QG ⟨by omega,by subst hi;exact QL (by omega) (QcK he).1,trivial⟩)
  rcases q with q | q
  ·exact T3
  exact T3
theorem Qry (e:Qj)(he:QbV e):Qg (QfW e) fun _=>True:=by
 unfold QfW Qml
 exact T0 (Qtc _ e 60 he (Qbz _)) fun _ _=>T3
theorem Qvp (n1:Qm)(h:QA n1)(q0:Int):Qg (Qgk n1 q0) fun r=>r=true→q0≤400:=by
 unfold Qgk
 refine T0 (Qg.up n1.Tasks.length (fun st=>st.2) (fun _=>True) (Q:=fun _=>True) rfl trivial (fun i st hi hn _=>?_)) (fun q _=>?_)
 ·obtain⟨a,x⟩:=st
  replace hi:x=(i:Int):=hi
  show Qg (Qgj n1 a x) _
  unfold Qgj
  refine T1 (fun hc=>?_) (fun _=>T2 (Qr trivial))
  simp only [QX]at hc
  refine T0 (T4 (by omega) (by omega)) fun e he=>?_
  have ke:=h.2.2.1.2 e he
  refine T1 (fun _=>T2 (Qr trivial)) fun _=>?_
  refine T0 (Qg.up e.Vars.length (fun st=>st) (fun _=>True) (Q:=fun _=>True) rfl trivial (fun i2 st hi2 hn2 _=>?_)) (fun q _=>?_)
  ·show Qg (Qgd e st) _
   unfold Qgd
   refine T1 (fun hc=>?_) (fun _=>T2 (Qr trivial))
   simp only [QX]at hc
   refine T0 (T4 (by omega) (by omega)) fun s _=>?_
   exact T1 (fun _=>T2 (Qr trivial)) fun _=>T2 (QG ⟨by omega,by rw [hi2];exact QL (by omega) ke.2.1.1,trivial⟩)
  rcases q with q | q
  ·exact T2 (Qr trivial)
  show Qg (Qgi e a x) _
  unfold Qgi
  refine T0 (Qry e.Guard ke.2.2.1) fun g _=>?_
  refine T0 (Qg.up e.Ins.length (fun st=>st.2) (fun _=>True) (Q:=fun _=>True) rfl trivial (fun i2 st hi2 hn2 _=>?_)) (fun q _=>?_)
  ·obtain⟨b,y⟩:=st
   replace hi2:y=(i2:Int):=hi2
   show Qg (Qge e b y) _
   unfold Qge
   refine T1 (fun hc=>?_) (fun _=>T2 (Qr trivial))
   simp only [QX]at hc
   refine T0 (T4 (by omega) (by omega)) fun s hs=>?_
   refine T0 (Qry s.Expr (ke.2.2.2.2.2.1.2 s hs).2) fun g _=>?_
   exact T2 (QG ⟨by omega,by subst hi2;exact QL (by omega) ke.2.2.2.2.2.1.1,trivial⟩)
  show Qg (Qgh e a x q) _
  unfold Qgh
  refine T0 (Qg.up e.Outs.length (fun st=>st.2) (fun _=>True) (Q:=fun _=>True) rfl trivial (fun i2 st hi2 hn2 _=>?_)) (fun q _=>?_)
  ·obtain⟨b,y⟩:=st
   replace hi2:y=(i2:Int):=hi2
   show Qg (Qgf e b y) _
   unfold Qgf
   refine T1 (fun hc=>?_) (fun _=>T2 (Qr trivial))
   simp only [QX]at hc
   refine T0 (T4 (by omega) (by omega)) fun s hs=>?_
   refine T0 (Qry s.Expr (ke.2.2.2.2.2.2.1.2 s hs).2) fun g _=>?_
   exact T2 (QG ⟨by omega,by subst hi2;exact QL (by omega) ke.2.2.2.2.2.2.1.1,trivial⟩)
  show Qg (Qgg a e x q) _
  unfold Qgg
  exact T1 (fun _=>T2 (Qr trivial)) fun _=>T2 (QG ⟨by omega,by subst hi;exact QL (by omega) h.2.2.1.1,trivial⟩)
 rcases q with q | q
 ·exact T2 fun h=>by cases h
 exact T2 fun h=>by simpa using h
theorem Qvq (n1:Qm)(h:QA n1):Qg (Qh5 n1) fun r=>r=true→n1.Colours.length≤40∧n1.Places.length≤70∧n1.Tasks.length≤70:=by
 unfold Qh5
 refine T1 (fun _=>T2 fun h=>by cases h) fun hc=>?_
 simp only [Qd1,Qcs]at hc
 refine T6 (P:=fun _=>True) ?_ fun _ _ _=>by omega
 refine T0 (Qg.up n1.Colours.length (fun st=>st.2) (fun _=>True) (Q:=fun _=>True) rfl trivial (fun i st hi hn _=>?_)) (fun q _=>?_)
 ·obtain⟨a,x⟩:=st
  replace hi:x=(i:Int):=hi
  show Qg (Qho n1 a x) _
  unfold Qho
  refine T1 (fun hc=>?_) (fun _=>T2 (Qr trivial))
  simp only [QX]at hc
  refine T0 (T4 (by omega) (by omega)).self fun e he=>?_
  obtain⟨he,hm⟩:=he
  refine T0 (P:=fun _=>True) ?_ fun y _=>?_
  ·unfold QmL
   rw [he,QR]
   exact T1 (fun _=>T3) fun _=>T3
  unfold Qhn
  refine T1 (fun _=>T2 (Qr trivial)) fun _=>?_
  refine T0 (Qg.up e.Names.length (fun st=>st) (fun _=>True) (Q:=fun _=>True) rfl trivial (fun i2 st hi2 hn2 _=>?_)) (fun q _=>?_)
  ·show Qg (Qhm n1 x st) _
   unfold Qhm
   simp only [he,QR]
   refine T1 (fun hc=>?_) (fun _=>T2 (Qr trivial))
   simp only [QX]at hc
   refine T0 (T4 (by omega) (by omega)) fun s _=>?_
   refine T1 (fun _=>T2 (Qr trivial)) fun _=>?_
   exact T2 (QG ⟨by omega,by rw [hi2];exact QL (by omega) (h.1.2 e hm).2.2.2.2.1.1,trivial⟩)
  rcases q with q | q
  ·exact T2 (Qr trivial)
  exact T2 (QG ⟨by omega,by subst hi;exact QL (by omega) h.1.1,trivial⟩)
 rcases q with q | q
 ·exact T3
 show Qg (Qgl n1 q) _
 unfold Qgl
 refine T0 (Qg.up n1.Places.length (fun st=>st.2) (fun _=>True) (Q:=fun _=>True) rfl trivial (fun i st hi hn _=>?_)) (fun q _=>?_)
 ·obtain⟨a,x⟩:=st
  replace hi:x=(i:Int):=hi
  show Qg (Qhp n1 a x) _
  unfold Qhp
  refine T1 (fun hc=>?_) (fun _=>T2 (Qr trivial))
  simp only [QX]at hc
  refine T0 (T4 (by omega) (by omega)) fun e _=>?_
  refine T0 (T4 (by omega) (by omega)) fun e2 _=>?_
  exact T1 (fun _=>T2 (Qr trivial)) fun _=>T2 (QG ⟨by omega,by subst hi;exact QL (by omega) h.2.1.1,trivial⟩)
 rcases q with q | q
 ·exact T3
 exact(Qvp n1 h q).mono fun _ _=>trivial
def MOk (n:Qm)(c:Nat)(m:List (List (Int×Int))):Prop:=m.length=n.Places.length∧∀b∈m,Rt b∧b.length≤c
theorem MOk.mono {n:Qm}{c c':Nat}{m:List (List (Int×Int))}(h:MOk n c m)(hc:c≤c'):MOk n c' m:=⟨h.1,fun b hb=>⟨(h.2 b hb).1,QcL (h.2 b hb).2 hc⟩⟩
structure QtM (n:Qm):Prop where
 k:QA n
 pl:n.Places.length≤70
 tl:n.Tasks.length≤12
 tk:∀t∈n.Tasks,t.Vars.length≤16∧t.Ins.length≤16∧t.Outs.length≤16∧t.Cancel.length≤16
theorem Qum (n1:Qm)(k2:Int)(h:Qbn n1 k2=some 0):∃t,idx n1.Tasks k2=some t∧t.Vars.length≤16∧t.Ins.length≤16∧t.Outs.length≤16∧t.Cancel.length≤16:=by
 unfold Qbn at h
 obtain⟨x5,_,h⟩:=Qd h
 rcases Qs h with⟨_,h⟩|⟨_,h⟩
 ·cases h
 obtain⟨x7,_,h⟩:=Qd h
 rcases Qs h with⟨c,h⟩|⟨_,h⟩
 ·simp only [Option.some.injEq]at h;rw [h]at c;cases c
 obtain⟨e9,he9,h⟩:=Qd h
 obtain⟨e10,he10,h⟩:=Qd h
 rw [he9]at he10;cases he10
 obtain⟨_,_,h⟩:=Qd h
 obtain⟨_,_,h⟩:=Qd h
 obtain⟨_,_,h⟩:=Qd h
 obtain⟨_,_,h⟩:=Qd h
 obtain⟨x15,hx,h⟩:=Qd h
 have bad:∀a b:Int,0<a→x15=(a,b)→False:=fun a b ha e=>by
  subst e
  simp only at h
  rcases Qs h with⟨c,h⟩|⟨_,h⟩
  ·simp only [beq_iff_eq]at c;omega
  simp only [Option.some.injEq]at h;omega
 unfold QdD at hx
 obtain⟨x20,_,hx⟩:=Qd hx
 rcases Qs hx with⟨_,hx⟩|⟨_,hx⟩
 ·exact(bad _ _ (by decide) (Option.some.inj hx).symm).elim
 obtain⟨x22,_,hx⟩:=Qd hx
 rcases Qs hx with⟨_,hx⟩|⟨_,hx⟩
 ·exact(bad _ _ (by decide) (Option.some.inj hx).symm).elim
 obtain⟨x24,h24,hx⟩:=Qd hx
 rcases Qs hx with⟨_,hx⟩|⟨c,hx⟩
 ·exact(bad _ _ (by decide) (Option.some.inj hx).symm).elim
 unfold QeZ at h24
 simp only [Option.some.injEq]at h24
 rw [←h24]at c
 simp only [Qh9,Qt,QX,QhE]at c
 exact⟨e9,he9,by omega,by omega,by omega,by omega⟩
theorem Qs8 (l1:List Qu)(n1:Qm)(h:QA n1)(hl:QJ Q5 l1):Qg (Qa7 l1 n1) fun r=>r.2=0→∀(j:Nat),j<l1.length→Qbn n1 j=some 0:=by
 unfold Qa7
 refine T0 (Qg.up l1.length (fun st=>st) (fun st=>∀(j:Nat),(j:Int)<st→Qbn n1 j=some 0) (Q:=fun q=>(∀a b,q=.inl (a,b)→b≠0)∧(q=.inr ()→∀(j:Nat),j<l1.length→Qbn n1 j=some 0)) rfl (fun j hj=>by omega) (fun i st hi hn hJ=>?_)) (fun q hq=>?_)
 ·show Qg (QaJ l1 n1 st) _
  unfold QaJ
  refine T1 (fun hc=>?_) (fun hc=>T2 (Qr ⟨fun a b h=>(by cases h),fun _ j hj=>by
   simp only [Qcs]at hc
   exact hJ j (by omega)⟩))
  simp only [QX]at hc
  refine T0 (T4 (by omega) (by omega)) fun e he=>?_
  refine T0 (P:=fun x=>Qbn n1 st=some x) ?_ fun x hx=>?_
  ·unfold QfR
   exact T0 (Qm0 n1 st h).self fun x hx=>T2 hx.1
  refine T1 (fun hc=>T2 (Qr ⟨fun a b h=>(by cases h;simpa using hc),fun h=>(by cases h)⟩)) fun hc=>?_
  simp only [bne_eq_false_iff_eq]at hc
  refine T2 (QG ⟨by omega,by rw [hi];exact QL (by omega) hl.1,fun j hj=>?_⟩)
  rw [hi,QL (show i<l1.length by omega) hl.1]at hj
  by_cases c:j=i
  ·subst c;rw [←hi,hx,hc]
  exact hJ j (by omega)
 rcases q with q | q
 ·exact T2 fun h=>absurd h (hq.1 q.1 q.2 rfl)
 exact T2 fun _=>hq.2 rfl
theorem Qun (n1:Qm)(h:QA n1){p:QdI}(hn:QfX n1=some (0,p)):∀t∈n1.Tasks,t.Vars.length≤16∧t.Ins.length≤16∧t.Outs.length≤16∧t.Cancel.length≤16:=by
 unfold QfX at hn
 obtain⟨x6,_,hn⟩:=Qd hn
 rcases Qs hn with⟨c,hn⟩|⟨_,hn⟩
 ·simp only [Option.some.injEq,Prod.mk.injEq]at hn;rw [hn.1]at c;cases c
 obtain⟨x8,_,hn⟩:=Qd hn
 rcases Qs hn with⟨c,hn⟩|⟨_,hn⟩
 ·simp only [Option.some.injEq,Prod.mk.injEq]at hn;rw [hn.1]at c;cases c
 obtain⟨x10,_,hn⟩:=Qd hn
 rcases Qs hn with⟨c,hn⟩|⟨_,hn⟩
 ·simp only [Option.some.injEq,Prod.mk.injEq]at hn;rw [hn.1]at c;cases c
 obtain⟨x12,h12,hn⟩:=Qd hn
 rcases Qs hn with⟨c,hn⟩|⟨c,hn⟩
 ·simp only [Option.some.injEq,Prod.mk.injEq]at hn;rw [hn.1]at c;cases c
 simp only [bne_eq_false_iff_eq]at c
 obtain⟨r,hr,hr2⟩:=Qs8 n1.Tasks n1 h h.2.2.1
 rw [h12]at hr;cases hr
 intro t ht
 obtain⟨j,hj,rfl⟩:=List.mem_iff_getElem.1 ht
 obtain⟨t,h1,h2⟩:=Qum n1 j (hr2 c j hj)
 rw [Qdd,QN hj]at h1
 cases h1
 exact h2
end Go.Proofs
noncomputable section
namespace Go.Proofs
open Go Go.RowKit Go.Vm
theorem MOk.len {n:Qm}{c:Nat}{m:List (List (Int×Int))}(h:MOk n c m)(hn:QtM n)(hc:c≤1000000):QJ (QJ fun _=>True) m:=
 ⟨by have:=h.1;have:=hn.pl;unfold maxLen;omega,fun b hb=>⟨by have:=(h.2 b hb).2;unfold maxLen;omega,fun _ _=>trivial⟩⟩
end Go.Proofs
noncomputable section
namespace Go.Proofs
open Go Go.RowKit Go.Vm
def InI (a:Int):Prop:=-9223372036854775808≤a∧a≤9223372036854775807
instance (a : Int):Decidable (InI a):=by unfold InI;infer_instance
theorem QoZ (x:Int):IntKind.u64.wrap x=x % 18446744073709551616:=rfl
theorem QfF {x:Int}(h:0≤x∧x<18446744073709551616):IntKind.u64.wrap x=x:=by rw [QoZ];omega
theorem Qq2 {x:Int}(h:0≤x):Qb0 .u64 x 32=x / 4294967296:=by
 unfold Qb0
 rw [show min ((32:Int).toNat) (IntKind.bits .u64)=32 from rfl,Int.fdiv_eq_ediv_of_nonneg _ (by decide)]
 rfl
theorem QtN {x:Int}(h:0≤x∧x<18446744073709551616):QbI .u64 x 4294967295=x % 4294967296:=by
 unfold QbI
 have e:((BitVec.ofInt (IntKind.bits .u64) x &&& BitVec.ofInt (IntKind.bits .u64) 4294967295).toNat:Int)=x % 4294967296:=by
  rw [BitVec.toNat_and,BitVec.toNat_ofInt,BitVec.toNat_ofInt]
  have h1:(x % ((2:Nat) ^ (IntKind.bits .u64):Nat)).toNat=x.toNat:=by
   show(x % 18446744073709551616).toNat=x.toNat
   omega
  have h2:((4294967295:Int) % ((2:Nat) ^ (IntKind.bits .u64):Nat)).toNat=2 ^ 32-1:=by decide
  rw [h1,h2,Nat.and_two_pow_sub_one_eq_mod]
  omega
 rw [e]
 exact QfF (by omega)
theorem Qq3 {x y:Int}(hx:0≤x∧x≤4294967295)(hy:0≤y∧y≤4294967295):0≤x*y∧x*y≤18446744065119617025:=by
 refine⟨Int.mul_nonneg hx.1 hy.1,?_⟩
 have:=Int.mul_le_mul hx.2 hy.2 hy.1 (by decide)
 omega
theorem QtO {x y:Int}(hx:0≤x∧x<18446744073709551616)(hy:0≤y∧y<18446744073709551616):QeC x y=some (x*y / 18446744073709551616,x*y % 18446744073709551616):=by
 unfold QeC
 rw [Qq2 hx.1,Qq2 hy.1,QtN hx,QtN hy,QoZ (x*y)]
 have e:x*y=(x / 4294967296)*(y / 4294967296)*18446744073709551616+((x / 4294967296)*(y % 4294967296)+(x % 4294967296)*(y / 4294967296))*4294967296+(x % 4294967296)*(y % 4294967296):=by
  have h1:x=(x / 4294967296)*4294967296+x % 4294967296:=by omega
  have h2:y=(y / 4294967296)*4294967296+y % 4294967296:=by omega
  generalize x / 4294967296=a at *
  generalize x % 4294967296=b at *
  generalize y / 4294967296=c at *
  generalize y % 4294967296=d at *
  subst h1 h2
  grind
 rw [e]
 have b1:=Qq3 (x:=x / 4294967296) (y:=y / 4294967296) (by omega) (by omega)
 have b2:=Qq3 (x:=x / 4294967296) (y:=y % 4294967296) (by omega) (by omega)
 have b3:=Qq3 (x:=x % 4294967296) (y:=y / 4294967296) (by omega) (by omega)
 have b4:=Qq3 (x:=x % 4294967296) (y:=y % 4294967296) (by omega) (by omega)
 generalize x / 4294967296*(y / 4294967296)=p at *
 generalize x / 4294967296*(y % 4294967296)=q at *
 generalize x % 4294967296*(y / 4294967296)=r at *
 generalize x % 4294967296*(y % 4294967296)=s at *
 rw [QfF (x:=s) (by omega),Qq2 (x:=s) (by omega),QfF (x:=q) (by omega),QfF (x:=q+s / 4294967296) (by omega),Qq2 (x:=q+s / 4294967296) (by omega),QtN (x:=q+s / 4294967296) (by omega),QfF (x:=r) (by omega),QfF (x:=p) (by omega),
  QfF (x:=(q+s / 4294967296) % 4294967296+r) (by omega),Qq2 (x:=(q+s / 4294967296) % 4294967296+r) (by omega),QfF (x:=p+(q+s / 4294967296) / 4294967296) (by omega),QfF (by omega)]
 congr 2
 omega
def Qda (a:Int):Int:=if a<0 then -a else a
theorem QrN {a:Int}(h:InI a):Qh3 a=some (Qda a):=by
 unfold Qh3 Qda InI at *
 by_cases c:a<0
 ·rw [Qm6 c,cond_true,if_pos c,QoZ,QoZ];congr 1;omega
 rw [Qkw c,cond_false,if_neg c,QoZ];congr 1;omega
theorem Qtd (a b:Int):Qda a*Qda b=Qda (a*b):=by
 unfold Qda
 by_cases c1:a<0<;>by_cases c2:b<0
 ·rw [if_pos c1,if_pos c2,if_neg (by have:=Int.mul_pos_of_neg_of_neg c1 c2;omega),Int.neg_mul_neg]
 ·rw [if_pos c1,if_neg c2]
  by_cases c3:b=0
  ·subst c3;simp
  rw [if_pos (Int.mul_neg_of_neg_of_pos c1 (by omega)),Int.neg_mul]
 ·rw [if_neg c1,if_pos c2]
  by_cases c3:a=0
  ·subst c3;simp
  rw [if_pos (Int.mul_neg_of_pos_of_neg (by omega) c2),Int.mul_neg]
 rw [if_neg c1,if_neg c2,if_neg (by have:=Int.mul_nonneg (show 0≤a by omega) (show 0≤b by omega);omega)]
def QtP (a b:Int):Int×Int:=if InI (a*b)then(a*b,0)else(0,6)
theorem QsK {a b:Int}(ha:InI a)(hb:InI b):Qhf a b=some (QtP a b):=by
 unfold Qhf
 have h1:0≤Qda a∧Qda a≤9223372036854775808:=by unfold Qda InI at *;split<;>omega
 have h2:0≤Qda b∧Qda b≤9223372036854775808:=by unfold Qda InI at *;split<;>omega
 have h3:0≤Qda a*Qda b:=Int.mul_nonneg h1.1 h2.1
 rw [QrN ha,QR,QrN hb,QR,QtO (by omega) (by omega),QR]
 rw [Qtd]at h3 ⊢
 have sg:(decide (a<0) != decide (b<0))=true∨(decide (a<0) != decide (b<0))=false:=by cases (decide (a<0) != decide (b<0))<;>simp
 have hsg:(decide (a<0) != decide (b<0))=true→a*b≤0:=fun h=>by
  by_cases c1:a<0<;>by_cases c2:b<0<;>simp [c1,c2]at h
  ·exact Int.mul_nonpos_of_nonpos_of_nonneg (by omega) (by omega)
  exact Int.mul_nonpos_of_nonneg_of_nonpos (by omega) (by omega)
 have hsg2:(decide (a<0) != decide (b<0))=false→0≤a*b:=fun h=>by
  by_cases c1:a<0<;>by_cases c2:b<0<;>simp [c1,c2]at h
  ·have:=Int.mul_pos_of_neg_of_neg c1 c2;omega
  exact Int.mul_nonneg (by omega) (by omega)
 have hw:InI (a*b)→w64 (a*b)=a*b:=fun h=>Qci h
 generalize hm:a*b=m at *
 unfold QtP
 rw [hm]
 unfold Qda at h3 ⊢
 rcases sg with c | c
 ·rw [c,cond_true]
  have:=hsg c
  unfold Qc0
  rw [hm,QoZ]
  simp only
  by_cases ci:InI m
  ·rw [if_pos ci,hw ci]
   unfold InI at ci
   rw [Qkw (by split<;>omega),Qkw (by split<;>omega)];rfl
  rw [if_neg ci]
  have:decide (0<(if m<0 then -m else m) / 18446744073709551616)=true∨decide ((9223372036854775807+1) % 18446744073709551616<(if m<0 then -m else m) % 18446744073709551616)=true:=by
   unfold InI at ci
   rw [QX,QX]
   split<;>omega
  rcases this with h | h
  ·rw [h];rfl
  rw [h,Bool.or_true];rfl
 rw [c,cond_false]
 have:=hsg2 c
 unfold Qc0
 rw [hm]
 simp only
 by_cases ci:InI m
 ·rw [if_pos ci,hw ci]
  unfold InI at ci
  rw [Qkw (by split<;>omega),Qkw (by split<;>omega)];rfl
 rw [if_neg ci]
 have:decide (0<(if m<0 then -m else m) / 18446744073709551616)=true∨decide ((9223372036854775807:Int)<(if m<0 then -m else m) % 18446744073709551616)=true:=by
  unfold InI at ci
  rw [QX,QX]
  split<;>omega
 rcases this with h | h
 ·rw [h];rfl
 rw [h,Bool.or_true];rfl
def QtQ (a b:Int):Int×Int:=if InI (a+b)then(a+b,0)else(0,6)
theorem Qu1 {a b:Int}(ha:InI a)(hb:InI b):QkE a b=some (QtQ a b):=by
 unfold QkE QtQ
 by_cases ci:InI (a+b)
 ·rw [if_pos ci,Qci ci]
  have:((decide (a<0)==decide (b<0))&&(decide (a+b<0) != decide (a<0)))=false:=by
   by_cases c1:a<0<;>by_cases c2:b<0<;>simp [c1,c2]<;>omega
  rw [this];rfl
 rw [if_neg ci]
 have hw:w64 (a+b)=if a+b<0 then a+b+18446744073709551616 else a+b-18446744073709551616:=by
  rw [QuZ];unfold wrap64 InI at *;split<;>omega
 have:((decide (a<0)==decide (b<0))&&(decide (w64 (a+b)<0) != decide (a<0)))=true:=by
  rw [hw]
  unfold InI at *
  by_cases c1:a<0<;>by_cases c2:b<0<;>by_cases c3:a+b<0<;>simp [c1,c2,c3]<;>omega
 rw [this];rfl
theorem QvT {a b:Int}(ha:InI a)(hb:InI b):Qed 3 a b=some (QtP a b):=by
 unfold Qed
 rw [show((3:Int)==1)=false from rfl,cond_false,show((3:Int)==2)=false from rfl,cond_false,show((3:Int)==3)=true from rfl,cond_true,QsK ha hb];rfl
theorem QvU {a b:Int}(ha:InI a)(hb:InI b):Qed 1 a b=some (QtQ a b):=by
 unfold Qed
 rw [show((1:Int)==1)=true from rfl,cond_true,Qu1 ha hb];rfl
end Go.Proofs
noncomputable section
namespace Go.Proofs
open Go Go.RowKit Go.Vm
def QkJ : Int→List (Int×Int)→Int×Int
 | n,[]=>(n,0)
 | n,p::r=>if InI (p.1*p.2)then(if InI (n+p.1*p.2)then QkJ (n+p.1*p.2) r else(0,6))else(0,6)
theorem Qu2 {x y t:Int}(v1 v2:Int)(hx:InI x)(hy:InI y)(ht:InI t):Qc7 v1 v2 t (Qen.mk x y)=some (if InI (x*y)then(if InI (t+x*y)then .inr (t+x*y)else .inl (0,6))else .inl (0,6)):=by
 unfold Qc7
 show(Qed 3 x y).bind _=_
 rw [QvT hx hy,QR]
 unfold QtP
 by_cases c:InI (x*y)
 ·rw [if_pos c,if_pos c]
  show(Qed 1 t (x*y)).bind _=_
  rw [QvU ht c,QR]
  unfold QtQ
  by_cases c2:InI (t+x*y)
  ·rw [if_pos c2,if_pos c2];rfl
  rw [if_neg c2,if_neg c2];rfl
 rw [if_neg c,if_neg c];rfl
theorem Qvr (a b:List Int)(ha:∀x∈a,InI x)(hb:∀x∈b,InI x)(hl:a.length≤maxLen):(QfL 0 0 0 a b).bind (Sum.elim (fun q=>Qhg q) (fun q=>Qhh q))=some (QkJ 0 (a.zip b)):=by
 unfold QfL
 have hlen:((a.zip b).length:Int)=min2 (a.length:Int) (b.length:Int):=by rw [List.length_zip];unfold min2;split<;>omega
 have main:=QqK (body:=fun st:Int×Int=>Qbs a b 0 0 st.1 st.2) (l:=a.zip b) (fun _ (t:Int)=>InI t) (fun i t=>((i:Int),t))
  (fun _ t (p:Int×Int)=>if InI (p.1*p.2)∧InI (t+p.1*p.2)then .inl (t+p.1*p.2)else .inr (.inl (0,6,t))) (fun t=>(.inr t:(Int×Int×Int)⊕Int))
  (fun i t p ht hi hp=>by
   obtain⟨h1,h2⟩:=List.getElem?_zip_eq_some.1 hp
   have hx:=ha _ (QY h1)
   have hy:=hb _ (QY h2)
   refine⟨?_,fun t' e=>?_⟩
   ·show Qbs a b 0 0 (i:Int) t=_
    unfold Qbs
    rw [Qm6 (by rw [←hlen];omega),cond_true,Qdd,h1,QR,Qdd,h2,QR,Qu2 0 0 hx hy ht,QR]
    have hw:w64 ((i:Int)+1)=((i+1:Nat):Int):=QL (n:=a.length) (QF.1 h1).1 hl
    by_cases c:InI (p.1*p.2)
    ·by_cases c2:InI (t+p.1*p.2)
     ·rw [if_pos c,if_pos c2,if_pos ⟨c,c2⟩]
      show Qff i _=_
      unfold Qff;rw [hw];rfl
     rw [if_pos c,if_neg c2,if_neg fun h=>c2 h.2];rfl
    rw [if_neg c,if_neg fun h=>c h.1];rfl
   replace e:(if InI (p.1*p.2)∧InI (t+p.1*p.2)then Sum.inl (t+p.1*p.2)else Sum.inr (.inl (0,6,t)):Int⊕((Int×Int×Int)⊕Int))=.inl t':=e
   split at e
   ·rename_i c;cases e;exact c.2
   cases e)
  (fun t _=>by
   show Qbs a b 0 0 ((a.zip b).length:Int) t=_
   unfold Qbs
   rw [Qkw (by rw [hlen];omega),cond_false]) 0 (by unfold InI;omega) (s0:=(0,0)) rfl
 rw [main,QR]
 have key:∀(l:List (Int×Int)) (i:Nat) (t:Int),(Sum.elim (fun q:Int×Int×Int=>Qiy q.1 q.2.1 q.2.2) (fun q=>Qiz q) (QkH (fun (_:Nat) (t:Int) (p:Int×Int)=>if InI (p.1*p.2)∧InI (t+p.1*p.2)then .inl (t+p.1*p.2)else .inr (.inl (0,6,t))) (fun t=>(.inr t:(Int×Int×Int)⊕Int)) i t l)).bind (Sum.elim (fun q=>Qhg q) (fun q=>Qhh q))=some (QkJ t l):=by
  intro l
  induction l with
  | nil=>intro i t;rfl
  | cons p l ih=>
   intro i t
   rw [QkH,QkJ]
   by_cases c:InI (p.1*p.2)
   ·by_cases c2:InI (t+p.1*p.2)
    ·rw [if_pos ⟨c,c2⟩,if_pos c,if_pos c2];exact ih _ _
    rw [if_neg fun h=>c2 h.2,if_pos c,if_neg c2];rfl
   rw [if_neg fun h=>c h.1,if_neg c];rfl
 exact key _ _ _
theorem QvV {a b:List Int}(ha:∀x∈a,InI x)(hb:∀x∈b,InI x)(hl:a.length≤maxLen):Qh4 a b=some (QkJ 0 (a.zip b)):=by
 unfold Qh4
 show(QfL 0 0 0 a b).bind _=_
 exact Qvr a b ha hb hl
def QcW : List Int→List Int→Int
 | x::a,y::b=>x*y+QcW a b
 | _,_=>0
theorem Quo {x y:Int}(hx:-2147483648≤x∧x≤2147483648)(hy:-32≤y∧y≤32):-68719476736≤x*y∧x*y≤68719476736:=by
 have h1:Qda x≤2147483648:=by unfold Qda;split<;>omega
 have h2:Qda y≤32:=by unfold Qda;split<;>omega
 have h3:0≤Qda x:=by unfold Qda;split<;>omega
 have h4:0≤Qda y:=by unfold Qda;split<;>omega
 have:=Int.mul_le_mul h1 h2 h4 (by decide)
 rw [Qtd]at this
 unfold Qda at this
 split at this<;>omega
theorem Qup : ∀(a b:List Int) (n:Int),(∀x∈a,-2147483648≤x∧x≤2147483648)→(∀y∈b,-32≤y∧y≤32)→-1000000000000000≤n-68719476736*a.length→n+68719476736*a.length≤1000000000000000→QkJ n (a.zip b)=(n+QcW a b,0):=by
 intro a
 induction a with
 | nil=>intro b n _ _ _ _;cases b<;>simp [QkJ,QcW]
 | cons x a ih=>
  intro b n ha hb h1 h2
  cases b with
  | nil=>simp [QkJ,QcW]
  | cons y b=>
   have hm:=Quo (ha x Qby) (hb y Qby)
   simp only [Qf2]at h1 h2
   rw [List.zip_cons_cons,QkJ,QcW]
   simp only
   rw [if_pos (by unfold InI;omega),if_pos (by unfold InI;omega),ih b _ (fun z hz=>ha z (Qb5 _ hz)) (fun z hz=>hb z (Qb5 _ hz)) (by omega) (by omega)]
   congr 1
   omega
end Go.Proofs
noncomputable section
namespace Go.Proofs
open Go Go.RowKit Go.Vm
theorem QvW (n1:Qm)(h:QA n1):Qg (Qjc n1) fun r=>r=true→QtM n1∧n1.Places.length≤12∧n1.Tasks.length≤8:=by
 unfold Qjc
 refine T0 (Qvq n1 h) fun x5 h5=>?_
 refine T1 (fun _=>T2 fun h=>by cases h) fun hc=>?_
 simp only [Qd1,Qh9,Qcs]at hc
 have h5:=h5 hc.1
 refine T0 (QrZ n1 h).self fun x11 h11=>T2 fun he=>?_
 obtain⟨a,b⟩:=x11
 have:a=0:=by simpa using he
 subst this
 exact⟨⟨h,h5.2.1,by omega,Qun n1 h h11.1⟩,by omega,by omega⟩
def Qq4 (arcs:Int)(r:List (List Int)):Prop:=r.length≤16∧∀row∈r,row.length≤16∧∀k∈row,0≤k∧k<arcs
def chI (arcs:Int)(o:Option (List (List Int))):Bool:=match o with
 | some r=>decide (r.length≤16)&&r.all fun row=>decide (row.length≤16)&&row.all fun k=>decide (0≤k)&&decide (k<arcs)
 | none=>false
theorem QsL {arcs:Int}{o:Option (List (List Int))}(h:chI arcs o=true):Qg o (Qq4 arcs):=by
 cases o with
 | none=>cases h
 | some r=>
  simp only [chI,Qt,QX,QO]at h
  exact T2 h
theorem Qvi {arcs:Int}(h0:¬arcs<0)(h1:¬16<arcs):arcs=0∨arcs=1∨arcs=2∨arcs=3∨arcs=4∨arcs=5∨arcs=6∨arcs=7∨arcs=8∨arcs=9∨arcs=10∨arcs=11∨arcs=12∨arcs=13∨arcs=14∨arcs=15∨arcs=16:=by omega
set_option maxRecDepth 100000 in
theorem Qte (kind arcs:Int):Qg (Qcn kind arcs) (Qq4 arcs):=by
 by_cases hg:((decide (arcs<0))||((decide (16<arcs))||((kind==3)&&(decide (4<arcs)))))=true
 ·unfold Qcn
  rw [hg]
  exact T2 ⟨by simp,fun r h=>by cases h⟩
 simp only [QbJ,Qt,QX,beq_iff_eq,not_or,not_and]at hg
 obtain⟨h0,h1,h2⟩:=hg
 by_cases e1:kind=1
 ·subst e1
  rcases Qvi h0 h1 with rfl | rfl | rfl | rfl | rfl | rfl | rfl | rfl | rfl | rfl | rfl | rfl | rfl | rfl | rfl | rfl | rfl<;>exact QsL (by kernel_rfl)
 by_cases e2:kind=2
 ·subst e2
  rcases Qvi h0 h1 with rfl | rfl | rfl | rfl | rfl | rfl | rfl | rfl | rfl | rfl | rfl | rfl | rfl | rfl | rfl | rfl | rfl<;>exact QsL (by kernel_rfl)
 by_cases e3:kind=3
 ·subst e3
  have h3:=h2 rfl
  have:arcs=0∨arcs=1∨arcs=2∨arcs=3∨arcs=4:=by omega
  rcases this with rfl | rfl | rfl | rfl | rfl<;>exact QsL (by kernel_rfl)
 have f1:(kind==1)=false:=by simpa using e1
 have f2:(kind==2)=false:=by simpa using e2
 have f3:(kind==3)=false:=by simpa using e3
 unfold Qcn QcY
 rw [f1,f2,f3]
 exact T1 (fun _=>T2 ⟨by simp,fun r h=>by cases h⟩) fun _=>T2 ⟨by simp,fun r h=>by cases h⟩
def Eff (n:Qm)(b:Int)(e:List Int):Prop:=e.length=n.Places.length∧∀x∈e,-b≤x∧x≤b
theorem Eff.mono {n:Qm}{a b:Int}{e:List Int}(h:Eff n a e)(hb:a≤b):Eff n b e:=⟨h.1,fun x hx=>by have:=h.2 x hx;omega⟩
theorem QsM (l:List Int)(p k B:Int)(hB:0≤B∧B≤1000)(hk:-1≤k∧k≤1)(hl:∀x∈l,-B≤x∧x≤B):Qg (QeT l p k) fun r=>r.length=l.length∧∀x∈r,-(B+1)≤x∧x≤B+1:=by
 unfold QeT
 refine T1 (fun hc=>?_) fun _=>T2 ⟨rfl,fun x hx=>by have:=hl x hx;omega⟩
 simp only [Qt,QX]at hc
 refine T0 (T4 hc.1 hc.2) fun e he=>?_
 have:=hl e he
 refine T0 (T4 hc.1 hc.2) fun _ _=>T2 ⟨by simp,fun x hx=>?_⟩
 rcases List.mem_or_eq_of_mem_set hx with hx | rfl
 ·have:=hl x hx;omega
 rw [Qci (by omega)];omega
theorem QvX (n:Qm)(t:Qu)(row l:List Int)(hr:row.length≤16)(hk:∀k∈row,0≤k∧k<(t.Ins.length:Int))(hl:Eff n 0 l):Qg (Qw (fun st=>QcF row t st.1 st.2) (0,l)) (Eff n 16):=by
 refine Qg.up row.length (fun st=>st.1) (fun st=>Eff n st.1 st.2) rfl hl (fun i st hi hn hJ=>?_)
 obtain⟨x,l⟩:=st
 replace hi:x=(i:Int):=hi
 subst hi
 replace hJ:Eff n (i:Int) l:=hJ
 show Qg (QcF row t i l) _
 unfold QcF
 refine T1 (fun hc=>?_) (fun hc=>T2 (Qr (hJ.mono (by omega))))
 simp only [QX]at hc
 refine T0 (T4 (by omega) hc) fun k hk'=>?_
 have:=hk k hk'
 refine T0 (T4 this.1 this.2) fun a _=>?_
 refine T0 (QsM l a.Place (-1) i (by omega) (by omega) hJ.2) fun l' hl'=>?_
 refine T0 (T5 (by simpa using hl'.1)) fun _ _=>?_
 have hw:w64 ((i:Int)+1)=(i:Int)+1:=Qci (by omega)
 refine T2 (QG ⟨by omega,hw,hl'.1.trans hJ.1,?_⟩)
 show ∀x∈l',-(w64 ((i:Int)+1))≤x∧x≤w64 ((i:Int)+1)
 rw [hw];exact hl'.2
theorem QvY (n:Qm)(t:Qu)(row l:List Int)(hr:row.length≤16)(hk:∀k∈row,0≤k∧k<(t.Outs.length:Int))(hl:Eff n 16 l):Qg (Qw (fun st=>QcG row t st.1 st.2) (0,l)) (Eff n 32):=by
 refine Qg.up row.length (fun st=>st.1) (fun st=>Eff n (16+st.1) st.2) rfl hl (fun i st hi hn hJ=>?_)
 obtain⟨x,l⟩:=st
 replace hi:x=(i:Int):=hi
 subst hi
 replace hJ:Eff n (16+(i:Int)) l:=hJ
 show Qg (QcG row t i l) _
 unfold QcG
 refine T1 (fun hc=>?_) (fun hc=>T2 (Qr (hJ.mono (by omega))))
 simp only [QX]at hc
 refine T0 (T4 (by omega) hc) fun k hk'=>?_
 have:=hk k hk'
 refine T0 (T4 this.1 this.2) fun a _=>?_
 refine T0 (QsM l a.Place 1 (16+i) (by omega) (by omega) hJ.2) fun l' hl'=>?_
 refine T0 (T5 (by simpa using hl'.1)) fun _ _=>?_
 have hw:w64 ((i:Int)+1)=(i:Int)+1:=Qci (by omega)
 refine T2 (QG ⟨by omega,hw,hl'.1.trans hJ.1,?_⟩)
 show ∀x∈l',-(16+w64 ((i:Int)+1))≤x∧x≤16+w64 ((i:Int)+1)
 rw [hw];intro x hx;have:=hl'.2 x hx;omega
def QfG (n:Qm)(m:Int)(l:List (List Int)):Prop:=(l.length:Int)≤m∧∀e∈l,Eff n 32 e
theorem QfG.mono {n:Qm}{a b:Int}{l:List (List Int)}(h:QfG n a l)(hb:a≤b):QfG n b l:=⟨by have:=h.1;omega,h.2⟩
theorem QvZ (n:Qm)(t:Qu)(ins:List Int)(outs l:List (List Int))(m:Int)(hp:n.Places.length≤12)(hi:ins.length≤16∧∀k∈ins,0≤k∧k<(t.Ins.length:Int))(ho:Qq4 (t.Outs.length:Int) outs)(hm:m≤100000)(hl:QfG n m l):Qg (Qw (fun st=>QcH outs n ins t st.1 st.2) (0,l)) (QfG n (m+16)):=by
 have ho1:=ho.1
 refine Qg.up outs.length (fun st=>st.1) (fun st=>QfG n (m+st.1) st.2) rfl (hl.mono (by show m≤m+0;omega)) (fun i st hi2 hn hJ=>?_)
 obtain⟨x,l⟩:=st
 replace hi2:x=(i:Int):=hi2
 subst hi2
 replace hJ:QfG n (m+(i:Int)) l:=hJ
 show Qg (QcH outs n ins t i l) _
 unfold QcH
 refine T1 (fun hc=>?_) (fun hc=>T2 (Qr (hJ.mono (by omega))))
 simp only [QX]at hc
 refine T0 (T4 (by omega) hc) fun row hrow=>?_
 have hrow:=ho.2 row hrow
 refine T0 (T5 (by simp;omega)) fun _ _=>?_
 refine T0 (QvX n t ins _ hi.1 hi.2 ⟨by simp,fun x hx=>by have:=(List.mem_replicate.1 hx).2;omega⟩) fun l1 h1=>?_
 show Qg (Qd7 row t l i l1) _
 unfold Qd7
 refine T0 (QvY n t row l1 hrow.1 hrow.2 h1) fun l2 h2=>?_
 show Qg (Qd6 l i l2) _
 unfold Qd6
 have:=hJ.1
 refine T0 (T5 (by simp;omega)) fun _ _=>?_
 have hw:w64 ((i:Int)+1)=(i:Int)+1:=Qci (by omega)
 refine T2 (QG ⟨by omega,hw,?_,fun e he=>?_⟩)
 ·show((l++[l2]).length:Int)≤m+w64 ((i:Int)+1)
  rw [hw,QiP,QjA];omega
 rcases Qib.1 he with he | he
 ·exact hJ.2 e he
 rw [List.mem_singleton.1 he];exact h2
theorem Qv0 (n:Qm)(t:Qu)(ins l:List (List Int))(m:Int)(hp:n.Places.length≤12)(hi:Qq4 (t.Ins.length:Int) ins)(hm:m≤10000)(hl:QfG n m l):Qg (Qw (fun st=>QcI ins t n st.1 st.2) (0,l)) (QfG n (m+256)):=by
 have hi1:=hi.1
 refine Qg.up ins.length (fun st=>st.1) (fun st=>QfG n (m+16*st.1) st.2) rfl (hl.mono (by show m≤m+16*0;omega)) (fun i st hi2 hn hJ=>?_)
 obtain⟨x,l⟩:=st
 replace hi2:x=(i:Int):=hi2
 subst hi2
 replace hJ:QfG n (m+16*(i:Int)) l:=hJ
 show Qg (QcI ins t n i l) _
 unfold QcI
 refine T1 (fun hc=>?_) (fun hc=>T2 (Qr (hJ.mono (by omega))))
 simp only [QX]at hc
 refine T0 (T4 (by omega) hc) fun row hrow=>?_
 refine T0 (Qte _ _) fun outs ho=>?_
 refine T0 (QvZ n t row outs l _ hp (hi.2 row hrow) ho (by omega) hJ) fun l1 h1=>?_
 show Qg (Qd8 i l1) _
 unfold Qd8
 have hw:w64 ((i:Int)+1)=(i:Int)+1:=Qci (by omega)
 refine T2 (QG ⟨by omega,hw,?_⟩)
 show QfG n (m+16*w64 ((i:Int)+1)) l1
 rw [hw];exact h1.mono (by omega)
theorem QsN (n:Qm)(hp:n.Places.length≤12)(ht:n.Tasks.length≤8):Qg (QbN n) (QfG n 2048):=by
 unfold QbN
 refine T0 (Qg.up n.Tasks.length (fun st=>st.1) (fun st=>QfG n (256*st.1) st.2) (Q:=QfG n 2048) rfl ⟨by simp,fun e he=>by cases he⟩ (fun i st hi2 hn hJ=>?_)) fun q hq=>T2 hq
 obtain⟨x,l⟩:=st
 replace hi2:x=(i:Int):=hi2
 subst hi2
 replace hJ:QfG n (256*(i:Int)) l:=hJ
 show Qg (Qea n i l) _
 unfold Qea
 refine T1 (fun hc=>?_) (fun hc=>T2 (Qr (hJ.mono (by omega))))
 simp only [QX]at hc
 refine T0 (T4 (by omega) hc) fun t _=>?_
 refine T0 (Qte _ _) fun ins hins=>?_
 refine T0 (Qv0 n t ins l _ hp hins (by omega) hJ) fun l1 h1=>?_
 show Qg (Qd9 i l1) _
 unfold Qd9
 have hw:w64 ((i:Int)+1)=(i:Int)+1:=Qci (by omega)
 refine T2 (QG ⟨by omega,hw,?_⟩)
 show QfG n (256*w64 ((i:Int)+1)) l1
 rw [hw];exact h1.mono (by omega)
def QhS (n:Qm)(k:Int):Bool:=decide (k<0)||decide ((n.Places.length:Int)≤k)
theorem QoK {α:Type}{l:List α}(p:α→Bool){body:Int→Option (Int⊕(Int⊕Unit))}(hs:∀(i:Nat) x,i<l.length→l[i]? = some x→body (i:Int)=some (bif p x then .inr (.inl (i:Int))else .inl ((i+1:Nat):Int)))(hf:body (l.length:Int)=some (.inr (.inr ()))):
  Qw body 0=some ((QdS (fun _ x=>p x) 0 l).elim (.inr ()) fun i=>.inl (i:Int)):=
 Quk (ρ:=Int⊕Unit) (fun i:Nat=>(i:Int)) (fun _ x=>p x) (fun i=>Sum.inl (i:Int)) (Sum.inr ()) hs hf rfl
theorem Qs9 {α:Type}{p:Nat→α→Bool}:∀{l:List α} {k n:Nat},QdS p k l=some n→∀i x,k+i<n→l[i]? = some x→p (k+i) x=false:=by
 intro l
 induction l with
 | nil=>intro k n h;cases h
 | cons y l ih=>
  intro k n h i x hi hx
  rw [QdS]at h
  cases hp:p k y with
  | true=>rw [hp]at h;cases h;omega
  | false=>
   rw [hp]at h
   cases i with
   | zero=>cases hx;exact hp
   | succ i=>
    have:=ih h i x (by omega) hx
    rwa [show k+1+i=k+(i+1) by omega]at this
theorem QsO {α:Type}(p:α→Bool)(l:List α):(decide (0≤(QdS (fun _ x=>p x) 0 l).elim (-1:Int) fun i=>(i:Int)))=l.any p:=by
 cases h:QdS (fun _ x=>p x) 0 l with
 | none=>
  have h2:=QqM h
  show decide ((0:Int)≤-1)=_
  rw [eq_comm,show decide ((0:Int)≤-1)=false from rfl,List.any_eq_false]
  intro x hx
  obtain⟨i,hi⟩:=QlL hx
  rw [h2 i x hi];simp
 | some i=>
  obtain⟨j,x,_,h3,h4⟩:=QqL h
  show decide ((0:Int)≤(i:Int))=_
  rw [Qm6 (by omega),eq_comm,QlJ]
  exact⟨x,QY h3,h4⟩
theorem Quq (l:List Int)(n:Qm)(hl:l.length≤maxLen):Qa8 l n=some ((QdS (fun _ x=>QhS n x) 0 l).elim (-1) fun i=>(i:Int)):=by
 unfold Qa8
 rw [QoK (l:=l) (QhS n) (fun i x hi hx=>by
  show QZ l n i=_
  unfold QZ
  rw [Qm6 (by omega),cond_true,Qdd,hx,QR,show QcZ x n=some (QhS n x)from rfl,QR,QL hi hl]
  cases QhS n x<;>rfl) (by
  show QZ l n l.length=_
  unfold QZ
  rw [Qkw (by omega),cond_false])]
 cases QdS (fun _ x=>QhS n x) 0 l<;>rfl
theorem Qu3 (n:Qm)(l:List Int)(hl:l.length≤1000):Qg (Qa5 l n) fun r=>r.length≤1000∧∀k∈r,QhS n k=false:=by
 unfold Qa5
 rw [Quq l n (by unfold maxLen;omega),QR]
 cases hs:QdS (fun _ x=>QhS n x) 0 l with
 | none=>
  refine T1 (fun _=>T2 ⟨hl,fun k hk=>?_⟩) fun hc=>by cases hc
  obtain⟨i,hi⟩:=QlL hk
  have:=QqM hs i k hi
  exact this
 | some i0=>
  obtain⟨i1,x0,e0,hx0,_⟩:=QqL hs
  have hi0:i0<l.length:=by have:=(QF.1 hx0).1;omega
  refine T1 (fun hc=>by simp at hc) fun _=>?_
  show Qg ((Qw _ ((i0:Int),w64 ((i0:Int)+1),l)).bind _) _
  have hw:w64 ((i0:Int)+1)=(i0:Int)+1:=Qci (by omega)
  refine T0 (Qg.up (l.length-(i0+1)) (fun st=>st.2.1-((i0:Int)+1)) (fun st=>0≤st.1∧st.1<st.2.1∧st.2.2.length=l.length∧∀k∈st.2.2.take st.1.toNat,QhS n k=false) (Q:=fun q:Int×List Int=>0≤q.1∧q.1≤(l.length:Int)∧q.2.length=l.length∧∀k∈q.2.take q.1.toNat,QhS n k=false) (by show w64 ((i0:Int)+1)-((i0:Int)+1)=0;omega) ⟨by show(0:Int)≤i0;omega,by show(i0:Int)<w64 ((i0:Int)+1);omega,rfl,?_⟩ (fun i st hi hn hJ=>?_)) (fun q hq=>?_)
  ·show ∀k∈l.take (i0:Int).toNat,QhS n k=false
   rw [Int.toNat_natCast]
   intro k hk
   obtain⟨i,hi⟩:=QlL hk
   have hlt:=(QF.1 hi).1
   rw [Qg2]at hlt
   rw [Qbx,if_pos (by omega)]at hi
   exact Qs9 hs i k (by omega) hi
  ·obtain⟨a,j,l2⟩:=st
   replace hi:j-((i0:Int)+1)=i:=hi
   obtain⟨j1,j2,j3,j4⟩:0≤a∧a<j∧l2.length=l.length∧∀k∈l2.take a.toNat,QhS n k=false:=hJ
   show Qg (QaL n a j l2) _
   unfold QaL
   refine T1 (fun hc=>?_) (fun hc=>T2 (Qr ⟨j1,?_,j3,j4⟩))
   ·simp only [QX]at hc
    have hj:j.toNat<l2.length:=by omega
    have hw2:w64 (j+1)=j+1:=Qci (by omega)
    have hw3:w64 (a+1)=a+1:=Qci (by omega)
    rw [QsJ (by omega) (by omega),QR,show QcZ l2[j.toNat] n=some (QhS n l2[j.toNat])from rfl,QR]
    refine T1 (fun hc2=>?_) fun hc2=>?_
    ·have hc2:QhS n l2[j.toNat]=false:=by simpa using hc2
     refine T0 (T4 (by omega) (by omega)) fun _ _=>?_
     refine T2 (QG ⟨by omega,by show w64 (j+1)-((i0:Int)+1)=_;omega,by show 0≤w64 (a+1);omega,by show w64 (a+1)<w64 (j+1);omega,by simpa using j3,?_⟩)
     show ∀k∈(l2.set a.toNat l2[j.toNat]).take (w64 (a+1)).toNat,QhS n k=false
     rw [hw3,show(a+1).toNat=a.toNat+1 by omega,QoR,List.getElem?_set_self (by omega),List.take_set_of_le (Qbz _)]
     intro k hk
     rcases Qib.1 hk with hk | hk
     ·exact j4 k hk
     simp at hk;subst hk;exact hc2
    exact T2 (QG ⟨by omega,by show w64 (j+1)-((i0:Int)+1)=_;omega,j1,by show a<w64 (j+1);omega,j3,j4⟩)
   simp only [Qcs]at hc
   omega
  obtain⟨a,l2⟩:=q
  obtain⟨q1,q2,q3,q4⟩:0≤a∧a≤(l.length:Int)∧l2.length=l.length∧∀k∈l2.take a.toNat,QhS n k=false:=hq
  show Qg (QaM a l2) _
  unfold QaM
  refine T0 (T5 (by simp;omega)) fun _ _=>?_
  refine T0 (T5 (by simp;omega)) fun _ _=>T2 ?_
  rw [Qqi (by simp;omega),List.take_take,Nat.min_self]
  exact⟨by simp;omega,q4⟩
theorem Qur {l:List Int}{x:Int}(h:x∈QdH l):x∈l:=by
 unfold QdH Lib.compact Lib.compactUpTo at h
 rw [Q9]at h
 obtain⟨j,hj,rfl⟩:=h
 have hj:=QiQ.1 (QlN.1 hj).1
 rw [getElem!_pos l.toArray j (by simpa using hj)]
 simp
theorem QsP (n:Qm)(h:QtM n)(ht:n.Tasks.length≤8):Qg (QbP n) fun r=>r.length≤1000∧∀k∈r,0≤k∧k<(n.Places.length:Int):=by
 unfold QbP
 refine T0 (Qg.up n.Tasks.length (fun st=>st.1) (fun st=>(st.2.length:Int)≤16*st.1) (Q:=fun l:List Int=>l.length≤128) rfl (by simp) (fun i st hi2 hn hJ=>?_)) fun l hl=>?_
 ·obtain⟨x,l⟩:=st
  replace hi2:x=(i:Int):=hi2
  subst hi2
  replace hJ:(l.length:Int)≤16*(i:Int):=hJ
  show Qg (Qeb n i l) _
  unfold Qeb
  refine T1 (fun hc=>?_) (fun hc=>T2 (Qr (by omega)))
  simp only [QX]at hc
  refine T0 (T4 (by omega) hc) fun t htm=>?_
  have:=(h.tk t htm).2.2.2
  refine T0 (T5 (by simp;omega)) fun _ _=>?_
  have hw:w64 ((i:Int)+1)=(i:Int)+1:=Qci (by omega)
  refine T2 (QG ⟨by omega,hw,?_⟩)
  show((l++t.Cancel).length:Int)≤16*w64 ((i:Int)+1)
  rw [hw,QiP];omega
 show Qg (Qec n l) _
 unfold Qec QeW Qds
 refine T0 (Qu3 n l (by omega)) fun l1 h1=>?_
 rw [Qvh (by omega),QR,QR]
 refine T0 (T5 (by simp [Qoi])) fun _ _=>?_
 rw [Qvh (by rw [Qoi];omega),QR,QR]
 refine T2 ⟨?_,fun k hk=>?_⟩
 ·refine QcL ?_ h1.1
  rw [←Qoi l1]
  unfold QdH Lib.compact Lib.compactUpTo
  rw [Qjy]
  refine QcL (List.length_filter_le _ _) ?_
  simp
 have:=h1.2 k ((Qno l1).mem_iff.1 (Qur hk))
 unfold QhS at this
 simp at this
 omega
end Go.Proofs
noncomputable section
namespace Go.Proofs
open Go Go.RowKit Go.Vm
def Qr8 (w:List Int):Prop:=∀x∈w,-2147483648≤x∧x≤2147483648
theorem Qu4 (E w:List Int)(hl:E.length≤1000)(hE:∀k∈E,0≤k∧k<(w.length:Int)):QaR E w=some (E.any fun k=>w.getD k.toNat 0 != 0):=by
 unfold QaR Qb2
 rw [QoK (l:=E) (fun k=>w.getD k.toNat 0 != 0) (fun i x hi hx=>by
  show Q0 E w i=_
  have hk:=hE x (QY hx)
  unfold Q0 Qi6
  rw [Qm6 (by omega),cond_true,Qdd,hx,QR,QsJ hk.1 hk.2,QR,QR,QL hi (by unfold maxLen;omega),show w.getD x.toNat 0=w[x.toNat] by rw [Qm2,QN (by omega:x.toNat<w.length)];rfl]
  cases (w[x.toNat] != 0)<;>rfl) (by
  show Q0 E w E.length=_
  unfold Q0
  rw [Qkw (by omega),cond_false]),←QsO]
 cases QdS (fun _ x=>w.getD x.toNat 0 != 0) 0 E<;>rfl
theorem Qus (n:Qm)(e w:List Int)(hw:Qr8 w)(hl:w.length≤12)(he:Eff n 32 e):Qgc e w=some (QcW w e != 0):=by
 unfold Qgc
 rw [QvV (fun x hx=>by have:=hw x hx;unfold InI;omega) (fun x hx=>by have:=he.2 x hx;unfold InI;omega) (by unfold maxLen;omega),QR,Qup w e 0 hw he.2 (by omega) (by omega)]
 simp
theorem Qu5 (n:Qm)(F:List (List Int))(w:List Int)(hF:QfG n 2048 F)(hw:Qr8 w)(hl:w.length≤12):QaS F w=some (F.any fun e=>QcW w e != 0):=by
 have h1:=hF.1
 unfold QaS Qb3
 rw [QoK (l:=F) (fun e=>QcW w e != 0) (fun i x hi hx=>by
  show Q1 F w i=_
  unfold Q1
  rw [Qm6 (by omega),cond_true,Qdd,hx,QR,Qus n x w hw hl (hF.2 x (QY hx)),QR,QL hi (by unfold maxLen;omega)]
  cases (QcW w x != 0)<;>rfl) (by
  show Q1 F w F.length=_
  unfold Q1
  rw [Qkw (by omega),cond_false]),←QsO]
 cases QdS (fun _ x=>QcW w x != 0) 0 F<;>rfl
def Qjf (E:List Int)(F:List (List Int))(w:List Int):Prop:=(∀k∈E,w.getD k.toNat 0=0)∧∀e∈F,QcW w e=0
theorem Qu6 (n:Qm){E:List Int}{F:List (List Int)}(hE:QbP n=some E)(hE1:E.length≤1000)(hE2:∀k∈E,0≤k∧k<(n.Places.length:Int))(hF:QbN n=some F)(hF1:QfG n 2048 F)(hp:n.Places.length≤12)(w:List Int)(hl:w.length=n.Places.length)(hw:Qr8 w):
  ∃b,QaI n w=some b∧(b=true↔Qjf E F w):=by
 unfold QaI Qla Qfg
 rw [show((w.length:Int) != (n.Places.length:Int))=false by simp [hl],cond_false,hE,QR,Qu4 E w hE1 (by rw [hl];exact hE2),QR]
 cases h:E.any fun k=>w.getD k.toNat 0 != 0 with
 | true=>
  refine⟨false,rfl,fun h=>(by cases h),fun hh=>?_⟩
  rw [QlJ]at h
  obtain⟨k,hk,h⟩:=h
  rw [hh.1 k hk]at h;simp at h
 | false=>
  simp only [Bool.not_false,cond_true]
  rw [hF,QR,Qu5 n F w hF1 hw (by omega),QR]
  refine⟨_,rfl,?_⟩
  rw [List.any_eq_false]at h
  simp only [QdF,List.any_eq_false,bne_iff_ne,ne_eq,Decidable.not_not]at h ⊢
  exact⟨fun h2=>⟨h,h2⟩,fun h2=>h2.2⟩
theorem Qvs : ∀(v w e:List Int),v.length=w.length→QcW (List.zipWith (·+·) v w) e=QcW v e+QcW w e:=by
 intro v
 induction v with
 | nil=>intro w e h;cases w with
  | nil=>cases e<;>rfl
  | cons _ _=>cases h
 | cons x v ih=>
  intro w e h
  cases w with
  | nil=>cases h
  | cons y w=>
   cases e with
   | nil=>rfl
   | cons z e=>
    simp only [Qf2,Nat.succ.injEq]at h
    rw [List.zipWith_cons_cons,QcW,QcW,QcW,ih w e h,Int.add_mul]
    omega
theorem Qvt (c:Int):∀(v e:List Int),QcW (v.map (c*·)) e=c*QcW v e:=by
 intro v
 induction v with
 | nil=>intro e;cases e<;>simp [QcW]
 | cons x v ih=>
  intro e
  cases e with
  | nil=>simp [QcW]
  | cons z e=>rw [Qd2,QcW,QcW,ih e,Int.mul_add,Int.mul_assoc]
theorem Qu7 (c:Int)(v:List Int)(k:Nat):(v.map (c*·)).getD k 0=c*v.getD k 0:=by
 rw [Qm2,Qm2,QW]
 cases v[k]? <;> simp
theorem Qu8 (v w:List Int)(h:v.length=w.length)(k:Nat):(List.zipWith (·+·) v w).getD k 0=v.getD k 0+w.getD k 0:=by
 rw [Qm2,Qm2,Qm2]
 by_cases hk:k<v.length
 ·rw [QN hk,QN (by omega:k<w.length),QN (by simp;omega)]
  simp
 rw [List.getElem?_eq_none (by omega:v.length≤k),List.getElem?_eq_none (by omega:w.length≤k),List.getElem?_eq_none (by simp;omega:(List.zipWith (·+·) v w).length≤k)]
 rfl
theorem QsQ {E:List Int}{F:List (List Int)}{v:List Int}{c:Int}(hc:c≠0):Qjf E F (v.map (c*·))↔Qjf E F v:=by
 unfold Qjf
 refine and_congr (forall_congr' fun k=>imp_congr_right fun _=>?_) (forall_congr' fun e=>imp_congr_right fun _=>?_)
 ·rw [Qu7,Int.mul_eq_zero];exact or_iff_right hc
 rw [Qvt,Int.mul_eq_zero];exact or_iff_right hc
theorem QsR {E:List Int}{F:List (List Int)}{v w:List Int}(hl:v.length=w.length)(h:Qjf E F v):Qjf E F (List.zipWith (·+·) v w)↔Qjf E F w:=by
 unfold Qjf
 refine and_congr (forall_congr' fun k=>imp_congr_right fun hk=>?_) (forall_congr' fun e=>imp_congr_right fun he=>?_)
 ·rw [Qu8 v w hl,h.1 k hk,Int.zero_add]
 rw [Qvs v w e hl,h.2 e he,Int.zero_add]
theorem Qut {E:List Int}{F:List (List Int)}{v w:List Int}:Qjf E F (List.zipWith (·+·) v w)↔Qjf E F (List.zipWith (·+·) w v):=by
 rw [List.zipWith_comm]
 simp only [Int.add_comm]
theorem Qu9 (n:Nat):∀e:List Int,QcW (List.replicate n 0) e=0:=by
 induction n with
 | zero=>intro e;cases e<;>rfl
 | succ n ih=>intro e;cases e with
  | nil=>rfl
  | cons z e=>rw [List.replicate_succ,QcW,ih e];simp
theorem Quu {E:List Int}{F:List (List Int)}(n:Nat):Qjf E F (List.replicate n 0):=by
 refine⟨fun k _=>?_,fun e _=>Qu9 n e⟩
 rw [Qm2,List.getElem?_replicate]
 split<;>rfl
end Go.Proofs
noncomputable section
namespace Go.Proofs
open Go Go.RowKit Go.Vm
theorem Qq5 {τ ρ π:Type}{body:τ→π→Option (τ⊕ρ)}{s:τ}{p q:π}{o:τ⊕ρ}(h1:Qel body s [p,q]=some o)(h2:Qel body s [q,p]=some o):QgK body s [p,q]=some o:=by
 refine Qqu.2 ⟨fun l hl=>?_,h1⟩
 have hlen:=hl.length_eq
 match l,hl,hlen with
 | [a,b],hl,_=>
  have ha:a∈[p,q]:=hl.mem_iff.1 Qby
  simp only [Qcq,List.not_mem_nil,or_false]at ha
  rcases ha with rfl | rfl
  ·have:=List.perm_singleton.1 ((List.perm_cons a).1 hl)
   rw [this]
  have:=List.perm_singleton.1 ((List.perm_cons a).1 (hl.trans (List.Perm.swap a p [])))
  rw [this,h2,h1]
def Qmu : Qm:=(QjG).getD (Qm.mk [] [] [] 0 0)
def QoL : List (Int×List Int):=[(0,[-1,1,0]),(2,[0,0,1])]
theorem QtR : QdJ 3 QoL 1=some [1,1,0]:=by
 unfold QdJ
 rw [show QoL=[(0,[-1,1,0]),(2,[0,0,1])]from rfl,Qq5 (o:=.inl 1) (by kernel_rfl) (by kernel_rfl),QR]
 show Qcw 3 1 _ 1=_
 unfold Qcw
 rw [show chk (decide ((0:Int)≤3)&&decide ((3:Int)≤3)&&decide ((3:Int)≤4294967296))=some () by kernel_rfl,QR,show idx (List.replicate (3:Int).toNat (0:Int)) 1=some 0 by kernel_rfl,QR,
  Qq5 (o:=.inl [1,1,0]) (by kernel_rfl) (by kernel_rfl)]
 rfl
theorem Qta : Qif Qmu=some ([[1,1,0]],0):=by
 have h1:Qif Qmu=Qfe Qmu QoL:=by kernel_rfl
 rw [h1]
 unfold Qfe
 have b0:Qbr Qmu QoL 0 []=some (.inl (1,[])):=by kernel_rfl
 have b1:Qbr Qmu QoL 1 []=some (.inl (2,[[1,1,0]])):=by
  unfold Qbr
  rw [show decide ((1:Int)<(Qmu.Places.length:Int))=true by kernel_rfl,cond_true,show(Qc3 QoL 1).isSome=false by kernel_rfl,cond_false,show(Qmu.Places.length:Int)=3 by kernel_rfl,QtR]
  kernel_rfl
 have b2:Qbr Qmu QoL 2 [[1,1,0]]=some (.inl (3,[[1,1,0]])):=by kernel_rfl
 have b3:Qbr Qmu QoL 3 [[1,1,0]]=some (.inr [[1,1,0]]):=by kernel_rfl
 rw [QgD,b0];simp only [QR]
 rw [QgD,b1];simp only [QR]
 rw [QgD,b2];simp only [QR]
 rw [QgD,b3]
 rfl
theorem QtS : Qig=some true:=by
 unfold Qig
 rw [show QjG=some Qmu by kernel_rfl,QR,Qta,QR]
 kernel_rfl
end Go.Proofs
noncomputable section
namespace Go.Proofs
open Go Go.RowKit Go.Vm
theorem Qqf {l m:List Int}{i:Nat}{x:Int}(hl:l.length=m.length)(h:l.take i=m.take i)(hx:m[i]? = some x):(l.set i x).take (i+1)=m.take (i+1):=by
 have:=(QF.1 hx).1
 rw [QoR,QoR,hx,List.getElem?_set_self (by omega),List.take_set_of_le (Qbz _),h]
def QiF (x:Int):Prop:=-1073741824≤x∧x≤1073741824
def QwF (v w:List Int)(st:Int×List Int×List Int×List Int):Prop:=
 (st.2.1.length=v.length∧st.2.1.take st.1.toNat=(List.zipWith (·+·) v w).take st.1.toNat)∧(st.2.2.1.length=v.length∧st.2.2.1.take st.1.toNat=(v.map (2*·)).take st.1.toNat)∧(st.2.2.2.length=v.length∧st.2.2.2.take st.1.toNat=(v.map (-1*·)).take st.1.toNat)∧(∀x∈v.take st.1.toNat,QiF x)∧∀x∈w.take st.1.toNat,QiF x
theorem Qwk (v w:List Int)(i:Nat)(x y:Int)(hx:v[i]? = some x)(hy:w[i]? = some y):Qg (QdE v i w) fun b=>b=false→QiF x∧QiF y:=by
 unfold QdE
 rw [Qdd,Qdd,hx,hy,QR,QR,QR,QR]
 refine T1 (fun _=>T2 fun h=>by cases h) fun h1=>T1 (fun _=>T2 fun h=>by cases h) fun h2=>T1 (fun _=>T2 fun h=>by cases h) fun h3=>T2 fun h4=>?_
 simp only [Qcs]at h1 h2 h3 h4
 unfold QiF
 omega
theorem Qva (v w:List Int)(hl:w.length=v.length)(hm:v.length≤12):Qg (Qw (fun st=>Qbc v w st.1 st.2.1 st.2.2.1 st.2.2.2) (0,(List.replicate (v.length:Int).toNat (0:Int)),(List.replicate (v.length:Int).toNat (0:Int)),(List.replicate (v.length:Int).toNat (0:Int))))
  fun q=>q=.inl ()∨(q=.inr (List.zipWith (·+·) v w,v.map (2*·),v.map (-1*·))∧(∀x∈v,QiF x)∧∀x∈w,QiF x):=by
 refine Qg.up v.length (fun st=>st.1) (QwF v w) rfl ⟨⟨by simp,rfl⟩,⟨by simp,rfl⟩,⟨by simp,rfl⟩,fun x hx=>(by cases hx),fun x hx=>(by cases hx)⟩ (fun i st hi hn hJ=>?_)
 obtain⟨x,a,b,c⟩:=st
 replace hi:x=(i:Int):=hi
 subst hi
 obtain⟨⟨a1,a2⟩,⟨b1,b2⟩,⟨c1,c2⟩,d,e⟩:=hJ
 simp only [Int.toNat_natCast]at a1 a2 b1 b2 c1 c2 d e
 show Qg (Qbc v w i a b c) _
 unfold Qbc
 refine T1 (fun hc=>?_) (fun hc=>T2 (Qr (.inr ?_)))
 ·simp only [QX]at hc
  have i1:i<v.length:=by omega
  have hx:=QN i1
  have hy:=QN (show i<w.length by omega)
  refine T0 (Qwk v w i _ _ hx hy) fun r hr=>?_
  unfold QbS
  refine T1 (fun _=>T2 (Qr (.inl rfl))) fun hrf=>?_
  obtain⟨r1,r2⟩:=hr hrf
  unfold QiF at r1 r2
  rw [Qdd,Qdd,Qdd,Qdd,Qdd,hx,hy,QN (show i<a.length by omega),QN (show i<b.length by omega),QN (show i<c.length by omega)]
  simp only [QR,Int.toNat_natCast]
  rw [Qci (by omega),Qci (by omega),Qci (by omega),Qci (by omega)]
  refine T2 (QG ⟨i1,by show(i:Int)+1=_;omega,⟨by simpa using a1,?_⟩,⟨by simpa using b1,?_⟩,⟨by simpa using c1,?_⟩,?_,?_⟩)
  ·exact Qqf (by simp;omega) a2 (by rw [List.getElem?_zipWith,hx,hy])
  ·exact Qqf (by simp;omega) b2 (by rw [QW,hx];rfl)
  ·exact Qqf (by simp;omega) c2 (by rw [QW,hx];simp)
  ·show ∀x∈v.take (i+1),QiF x
   rw [QoR,hx]
   intro x hx
   rcases Qib.1 hx with hx | hx
   ·exact d x hx
   simp at hx;subst hx;exact r1
  show ∀x∈w.take (i+1),QiF x
  rw [QoR,hy]
  intro x hx
  rcases Qib.1 hx with hx | hx
  ·exact e x hx
  simp at hx;subst hx;exact r2
 simp only [Qcs]at hc
 have i1:i=v.length:=by omega
 subst i1
 rw [QiR (by omega),QiR (by simp<;>omega)]at a2 b2 c2
 rw [QiR (by omega)]at d e
 subst a2 b2 c2
 exact⟨rfl,d,e⟩
theorem eqB {a b:Bool}(h:a=true↔b=true):a=b:=by
 cases a<;>cases b<;>simp_all
theorem Qr0 (n:Qm)(v w:List Int)(h:QA n):Qbw n v w=some true:=by
 unfold Qbw
 rw [QtS,QR]
 obtain⟨f,hf,hf2⟩:=QvW n h
 rw [hf,QR]
 cases hc:((!f)||(((v.length:Int) != (n.Places.length:Int))||((w.length:Int) != (v.length:Int))))with
 | true=>rfl
 | false=>
  simp only [Qd1,Qh9,bne_eq_false_iff_eq]at hc
  obtain⟨hc1,hc2,hc3⟩:=hc
  obtain⟨ok,hp,ht⟩:=hf2 hc1
  have ck:chk (decide (0≤(v.length:Int))&&decide ((v.length:Int)≤(v.length:Int))&&decide ((v.length:Int)≤4294967296))=some ():=QtL (by simp;omega)
  simp only [cond_false,ck,QR]
  obtain⟨q,hq,hq2⟩:=Qva v w (by omega) (by omega)
  rw [hq,QR]
  rcases hq2 with rfl | ⟨rfl,hv,hw⟩
  ·rfl
  show QbU n v w true _ _ _=some true
  obtain⟨E,hE,hE1,hE2⟩:=QsP n ok ht
  obtain⟨F,hF,hF1⟩:=QsN n hp ht
  have hold:=fun u hu hlow=>Qu6 n hE hE1 hE2 hF hF1 hp u hu hlow
  have lw:w.length=v.length:=by omega
  have lv:v.length=n.Places.length:=by omega
  have low:∀{u:List Int},(∀x∈u,QiF x)→Qr8 u:=fun hu x hx=>by have:=hu x hx;unfold QiF at this;omega
  obtain⟨ba,ha,ha2⟩:=hold v lv (low hv)
  obtain⟨bb,hb,hb2⟩:=hold w (by omega) (low hw)
  obtain⟨bc,hcc,hc2⟩:=hold (List.zipWith (·+·) v w) (by simp;omega) (fun x hx=>by
   obtain⟨i,hi⟩:=QlL hx
   rw [List.getElem?_zipWith]at hi
   cases h1:v[i]? with
   | none=>rw [h1]at hi;cases hi
   | some y=>
    cases h2:w[i]? with
    | none=>rw [h1,h2]at hi;cases hi
    | some z=>
     rw [h1,h2]at hi
     simp only [Option.some.injEq]at hi
     have:=hv y (QY h1)
     have:=hw z (QY h2)
     unfold QiF at *
     omega)
  obtain⟨b0,h0,h02⟩:=hold (List.replicate (v.length:Int).toNat 0) (by simp;omega) (fun x hx=>by have:=(List.mem_replicate.1 hx).2;omega)
  obtain⟨b2,h2,h22⟩:=hold (v.map (2*·)) (by simp;omega) (fun x hx=>by
   obtain⟨y,hy,rfl⟩:=Q9.1 hx
   have:=hv y hy
   unfold QiF at this;omega)
  obtain⟨b1,h1,h12⟩:=hold (v.map (-1*·)) (by simp;omega) (fun x hx=>by
   obtain⟨y,hy,rfl⟩:=Q9.1 hx
   have:=hv y hy
   unfold QiF at this;omega)
  have e0:b0=true:=h02.2 (Quu _)
  have e2:b2=ba:=eqB (h22.trans ((QsQ (by decide)).trans ha2.symm))
  have e1:b1=ba:=eqB (h12.trans ((QsQ (by decide)).trans ha2.symm))
  have eab:ba=true→bc=bb:=fun h=>eqB (hc2.trans ((QsR lw.symm (ha2.1 h)).trans hb2.symm))
  have eba:bb=true→bc=ba:=fun h=>eqB (hc2.trans (Qut.trans ((QsR lw (hb2.1 h)).trans ha2.symm)))
  unfold QbU QgY QbT
  rw [ha,hb,hcc]
  simp only [QR,cond_true]
  rw [h0,h2,h1]
  simp only [QR]
  subst e0 e2 e1
  cases b1<;>cases bb<;>simp_all
end Go.Proofs
